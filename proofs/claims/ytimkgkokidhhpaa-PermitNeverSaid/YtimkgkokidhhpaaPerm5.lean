/- What permit.Either and the references' Either, Four and Six compute. No condition but sizes. -/
import Derived.Test.YtimkgkokidhhpaaPerm4
namespace Go.Proofs.Ytimkgkokidhhpaa
open Go.RowKit
set_option linter.unusedVariables false
set_option maxRecDepth 20000
set_option linter.unusedSimpArgs false

set_option maxHeartbeats 4000000 in
theorem either_any (A : Option Addr) (n c : Nat) (l : List UInt8) (w : World) (h : Row w w.heap.size 1 A n (bv l)) (hc : n ≤ c) (hcm : c ≤ maxLen) (hn : n ≤ 1099511627776) :
    Calls Try.prog 8 #[.slice A n c] w fun e w' => e = .returned (.int .i64 (eitherF l)) ∧ Below w.heap.size w w' := by
  have P := parse4_any A n c l w h hc hcm hn
  have Q := fun W (hB : Below w.heap.size w W) => parse6_any A n c l W ((h.below hB).more hB.size) hc hcm hn
  have hok := par4_ok l
  have hok6 := par6_ok l
  have hd : eitherF l = eitherF l := rfl
  conv at hd => rhs; unfold eitherF
  cases hp : par4 l with
  | mk h0 er =>
  cases hp6 : par6 l with
  | mk k0 es =>
  simp only [hp, hp6] at P Q hok hok6 hd
  have HP := Lib.hid P
  have HQ := Lib.hid Q
  have HOK := Lib.hid hok
  have HOK6 := Lib.hid hok6
  have HD := Lib.hid hd
  clear P Q hok hok6 hd hp hp6 h
  by_cases h1 : er = 0
  · subst h1
    go_enter Try.func8, Try.ntmps8
    go_wp2_with fail
    refine HP.out.mono ?_
    rintro e w1 ⟨rfl, hB1⟩
    go_wp2_with (first
      | (refine wpList_alloc_blk rfl 42 rfl H4.zero.cells zero4 ?_; intro w2 hbw2 hBw2 hsw2)
      | (refine wpList_store_all rfl 42 _ _ rfl w1.heap.size h0.cells rfl rfl 42 _ hbw2 (size4 _ HOK.out) (H4.cells_same _ _ HOK.out H4.zero_ok) (H4.one _) ?_; intro w3 hbw3 hgw3 hsw3; have hBw3 : Below w1.heap.size w1 w3 := bgrown hBw2 hgw3 (by omega) (by omega)))
    have hB3 := bthen hB1 hBw3
    go_ret
    exact ⟨by rw [HD.out]; rfl, hB3⟩
  · have h1' : (er == 0) = false := by simpa using h1
    by_cases h2 : es = 0
    · subst h2
      go_enter Try.func8, Try.ntmps8
      go_wp2_with fail
      refine HP.out.mono ?_
      rintro e w1 ⟨rfl, hB1⟩
      go_wp2_with (first
        | (refine wpList_alloc_blk rfl 42 rfl H4.zero.cells zero4 ?_; intro w2 hbw2 hBw2 hsw2)
        | (refine wpList_store_all rfl 42 _ _ rfl w1.heap.size h0.cells rfl rfl 42 _ hbw2 (size4 _ HOK.out) (H4.cells_same _ _ HOK.out H4.zero_ok) (H4.one _) ?_; intro w3 hbw3 hgw3 hsw3; have hBw3 : Below w1.heap.size w1 w3 := bgrown hBw2 hgw3 (by omega) (by omega)))
      have hB3 := bthen hB1 hBw3
      refine (HQ.out w3 hB3).mono ?_
      rintro e w4 ⟨rfl, hB4⟩
      have hB5 := bthen hB3 hB4
      go_wp2_with (first
        | (refine wpList_alloc_blk rfl 44 rfl H6.zero.cells zero6 ?_; intro w5 hbw5 hBw5 hsw5)
        | (refine wpList_store_all rfl 44 _ _ rfl w4.heap.size k0.cells rfl rfl 44 _ hbw5 (size6 _ HOK6.out) (H6.cells_same _ _ HOK6.out H6.zero_ok) (H6.one _) ?_; intro w6 hbw6 hgw6 hsw6; have hBw6 : Below w4.heap.size w4 w6 := bgrown hBw5 hgw6 (by omega) (by omega)))
      have hB6 := bthen hB5 hBw6
      go_ret
      exact ⟨by rw [HD.out, if_neg h1]; rfl, hB6⟩
    · have h2' : (es == 0) = false := by simpa using h2
      go_enter Try.func8, Try.ntmps8
      go_wp2_with fail
      refine HP.out.mono ?_
      rintro e w1 ⟨rfl, hB1⟩
      go_wp2_with (first
        | (refine wpList_alloc_blk rfl 42 rfl H4.zero.cells zero4 ?_; intro w2 hbw2 hBw2 hsw2)
        | (refine wpList_store_all rfl 42 _ _ rfl w1.heap.size h0.cells rfl rfl 42 _ hbw2 (size4 _ HOK.out) (H4.cells_same _ _ HOK.out H4.zero_ok) (H4.one _) ?_; intro w3 hbw3 hgw3 hsw3; have hBw3 : Below w1.heap.size w1 w3 := bgrown hBw2 hgw3 (by omega) (by omega)))
      have hB3 := bthen hB1 hBw3
      refine (HQ.out w3 hB3).mono ?_
      rintro e w4 ⟨rfl, hB4⟩
      have hB5 := bthen hB3 hB4
      go_wp2_with (first
        | (refine wpList_alloc_blk rfl 44 rfl H6.zero.cells zero6 ?_; intro w5 hbw5 hBw5 hsw5)
        | (refine wpList_store_all rfl 44 _ _ rfl w4.heap.size k0.cells rfl rfl 44 _ hbw5 (size6 _ HOK6.out) (H6.cells_same _ _ HOK6.out H6.zero_ok) (H6.one _) ?_; intro w6 hbw6 hgw6 hsw6; have hBw6 : Below w4.heap.size w4 w6 := bgrown hBw5 hgw6 (by omega) (by omega)))
      have hB6 := bthen hB5 hBw6
      go_ret
      exact ⟨by rw [HD.out, if_neg h1, if_neg h2]; rfl, hB6⟩

set_option maxHeartbeats 4000000 in
theorem reither_any (l : List UInt8) (w : World) (hn : l.length ≤ 1099511627776) :
    Calls Try.prog 9 #[str l] w fun e w' => e = .returned (.int .i64 (eitherF l)) ∧ Below w.heap.size w w' := by
  have P := rparse4_any l w hn
  have Q := fun W => rparse6_any l W hn
  have hok := par4_ok l
  have hok6 := par6_ok l
  have hd : eitherF l = eitherF l := rfl
  conv at hd => rhs; unfold eitherF
  cases hp : par4 l with
  | mk h0 er =>
  cases hp6 : par6 l with
  | mk k0 es =>
  simp only [hp, hp6] at P Q hok hok6 hd
  have HP := Lib.hid P
  have HQ := Lib.hid Q
  have HOK := Lib.hid hok
  have HOK6 := Lib.hid hok6
  have HD := Lib.hid hd
  clear P Q hok hok6 hd hp hp6
  by_cases h1 : er = 0
  · subst h1
    go_enter Try.func9, Try.ntmps9
    go_wp2_with fail
    refine HP.out.mono ?_
    rintro e w1 ⟨rfl, hB1⟩
    go_wp2_with (first
      | (refine wpList_alloc_blk rfl 42 rfl H4.zero.cells zero4 ?_; intro w2 hbw2 hBw2 hsw2)
      | (refine wpList_store_all rfl 42 _ _ rfl w1.heap.size h0.cells rfl rfl 42 _ hbw2 (size4 _ HOK.out) (H4.cells_same _ _ HOK.out H4.zero_ok) (H4.one _) ?_; intro w3 hbw3 hgw3 hsw3; have hBw3 : Below w1.heap.size w1 w3 := bgrown hBw2 hgw3 (by omega) (by omega)))
    have hB3 := bthen hB1 hBw3
    go_ret
    exact ⟨by rw [HD.out]; rfl, hB3⟩
  · have h1' : (er == 0) = false := by simpa using h1
    by_cases h2 : es = 0
    · subst h2
      go_enter Try.func9, Try.ntmps9
      go_wp2_with fail
      refine HP.out.mono ?_
      rintro e w1 ⟨rfl, hB1⟩
      go_wp2_with (first
        | (refine wpList_alloc_blk rfl 42 rfl H4.zero.cells zero4 ?_; intro w2 hbw2 hBw2 hsw2)
        | (refine wpList_store_all rfl 42 _ _ rfl w1.heap.size h0.cells rfl rfl 42 _ hbw2 (size4 _ HOK.out) (H4.cells_same _ _ HOK.out H4.zero_ok) (H4.one _) ?_; intro w3 hbw3 hgw3 hsw3; have hBw3 : Below w1.heap.size w1 w3 := bgrown hBw2 hgw3 (by omega) (by omega)))
      have hB3 := bthen hB1 hBw3
      refine (HQ.out w3).mono ?_
      rintro e w4 ⟨rfl, hB4⟩
      have hB5 := bthen hB3 hB4
      go_wp2_with (first
        | (refine wpList_alloc_blk rfl 44 rfl H6.zero.cells zero6 ?_; intro w5 hbw5 hBw5 hsw5)
        | (refine wpList_store_all rfl 44 _ _ rfl w4.heap.size k0.cells rfl rfl 44 _ hbw5 (size6 _ HOK6.out) (H6.cells_same _ _ HOK6.out H6.zero_ok) (H6.one _) ?_; intro w6 hbw6 hgw6 hsw6; have hBw6 : Below w4.heap.size w4 w6 := bgrown hBw5 hgw6 (by omega) (by omega)))
      have hB6 := bthen hB5 hBw6
      go_ret
      exact ⟨by rw [HD.out, if_neg h1]; rfl, hB6⟩
    · have h2' : (es == 0) = false := by simpa using h2
      go_enter Try.func9, Try.ntmps9
      go_wp2_with fail
      refine HP.out.mono ?_
      rintro e w1 ⟨rfl, hB1⟩
      go_wp2_with (first
        | (refine wpList_alloc_blk rfl 42 rfl H4.zero.cells zero4 ?_; intro w2 hbw2 hBw2 hsw2)
        | (refine wpList_store_all rfl 42 _ _ rfl w1.heap.size h0.cells rfl rfl 42 _ hbw2 (size4 _ HOK.out) (H4.cells_same _ _ HOK.out H4.zero_ok) (H4.one _) ?_; intro w3 hbw3 hgw3 hsw3; have hBw3 : Below w1.heap.size w1 w3 := bgrown hBw2 hgw3 (by omega) (by omega)))
      have hB3 := bthen hB1 hBw3
      refine (HQ.out w3).mono ?_
      rintro e w4 ⟨rfl, hB4⟩
      have hB5 := bthen hB3 hB4
      go_wp2_with (first
        | (refine wpList_alloc_blk rfl 44 rfl H6.zero.cells zero6 ?_; intro w5 hbw5 hBw5 hsw5)
        | (refine wpList_store_all rfl 44 _ _ rfl w4.heap.size k0.cells rfl rfl 44 _ hbw5 (size6 _ HOK6.out) (H6.cells_same _ _ HOK6.out H6.zero_ok) (H6.one _) ?_; intro w6 hbw6 hgw6 hsw6; have hBw6 : Below w4.heap.size w4 w6 := bgrown hBw5 hgw6 (by omega) (by omega)))
      have hB6 := bthen hB5 hBw6
      go_ret
      exact ⟨by rw [HD.out, if_neg h1, if_neg h2]; rfl, hB6⟩

set_option maxHeartbeats 4000000 in
theorem rpermFour_any (l : List UInt8) (w : World) (hn : l.length ≤ 1099511627776) :
    Calls Try.prog 11 #[str l] w fun e w' => e = .returned (.bool (fourF l)) ∧ Below w.heap.size w w' := by
  have P := rparse4_any l w hn
  have hok := par4_ok l
  have hd : fourF l = fourF l := rfl
  conv at hd => rhs; unfold fourF
  cases hp : par4 l with
  | mk h0 er =>
  simp only [hp] at P hok hd
  obtain ⟨f, hff⟩ : ∃ f, h0.off = f := ⟨_, rfl⟩
  obtain ⟨b3, hb3⟩ : ∃ b, (f == 0) = b := ⟨_, rfl⟩
  rw [hff, hb3] at hd
  have HF := Lib.hid hff
  clear hff
  obtain ⟨b1, hb1⟩ : ∃ b, plA h0.src = b := ⟨_, rfl⟩
  obtain ⟨b2, hb2⟩ : ∃ b, muA h0.dst = b := ⟨_, rfl⟩
  obtain ⟨b4, hb4⟩ : ∃ b, is4F l = b := ⟨_, rfl⟩
  obtain ⟨b0, hb0⟩ : ∃ b, (er == 0) = b := ⟨_, rfl⟩
  rw [hb0, hb1, hb2, hb4] at hd
  have HPL := Lib.hid hb1
  have HMU := Lib.hid hb2
  have HIS := Lib.hid hb4
  have HP := Lib.hid P
  have HOK := Lib.hid hok
  have HD := Lib.hid hd
  clear P hok hd hp hb1 hb2 hb4
  cases b0
  · go_enter Try.func11, Try.ntmps11
    go_wp2_with fail
    refine HP.out.mono ?_
    rintro e w1 ⟨rfl, hB1⟩
    go_wp2_with (first
      | (refine wpList_alloc_blk rfl 42 rfl H4.zero.cells zero4 ?_; intro w2 hbw2 hBw2 hsw2)
      | (refine wpList_store_all rfl 42 _ _ rfl w1.heap.size h0.cells rfl rfl 42 _ hbw2 (size4 _ HOK.out) (H4.cells_same _ _ HOK.out H4.zero_ok) (H4.one _) ?_; intro w3 hbw3 hgw3 hsw3; have hBw3 : Below w1.heap.size w1 w3 := bgrown hBw2 hgw3 (by omega) (by omega)); have rs := hbw3.range 8 4; rw [h0.drop_src HOK.out] at rs; have rd := hbw3.range 12 4; rw [h0.drop_dst HOK.out] at rd; have c5 : w3.cell? ⟨w1.heap.size, 5, none⟩ = some (.int .i64 f) := (hbw3.cell 5).trans (by show some (Value.int .i64 h0.off) = _; rw [HF.out])
      | (refine wpList_value (by rfl) (exec_load_mid 37 _ rfl (w1.heap.size) 8 rfl _ _ rs Try.underlying37 rfl (sizeA4 _ HOK.out.src)) ?_)
      | (refine wpList_value (by rfl) (exec_load_mid 37 _ rfl (w1.heap.size) 12 rfl _ _ rd Try.underlying37 rfl (sizeA4 _ HOK.out.dst)) ?_))
    have hW := bthen hB1 hBw3
    clear hB1 hbw2 hBw2 hsw2 hgw3 hsw3 hBw3
    go_ret
    exact ⟨by rw [HD.out]; simp, hW⟩
  · cases b1
    · go_enter Try.func11, Try.ntmps11
      go_wp2_with fail
      refine HP.out.mono ?_
      rintro e w1 ⟨rfl, hB1⟩
      go_wp2_with (first
        | (refine wpList_alloc_blk rfl 42 rfl H4.zero.cells zero4 ?_; intro w2 hbw2 hBw2 hsw2)
        | (refine wpList_store_all rfl 42 _ _ rfl w1.heap.size h0.cells rfl rfl 42 _ hbw2 (size4 _ HOK.out) (H4.cells_same _ _ HOK.out H4.zero_ok) (H4.one _) ?_; intro w3 hbw3 hgw3 hsw3; have hBw3 : Below w1.heap.size w1 w3 := bgrown hBw2 hgw3 (by omega) (by omega)); have rs := hbw3.range 8 4; rw [h0.drop_src HOK.out] at rs; have rd := hbw3.range 12 4; rw [h0.drop_dst HOK.out] at rd; have c5 : w3.cell? ⟨w1.heap.size, 5, none⟩ = some (.int .i64 f) := (hbw3.cell 5).trans (by show some (Value.int .i64 h0.off) = _; rw [HF.out])
        | (refine wpList_value (by rfl) (exec_load_mid 37 _ rfl (w1.heap.size) 8 rfl _ _ rs Try.underlying37 rfl (sizeA4 _ HOK.out.src)) ?_)
        | (refine wpList_value (by rfl) (exec_load_mid 37 _ rfl (w1.heap.size) 12 rfl _ _ rd Try.underlying37 rfl (sizeA4 _ HOK.out.dst)) ?_))
      have hW := bthen hB1 hBw3
      clear hB1 hbw2 hBw2 hsw2 hgw3 hsw3 hBw3
      refine (rplainA_any h0.src HOK.out.src w3).mono ?_
      rintro e w4 ⟨rfl, hb⟩
      rw [HPL.out]
      clear rs rd c5
      replace hW := bthen hW hb
      have hbw4 := hbw3.on hb
      clear hb hbw3
      have rs := hbw4.range 8 4
      rw [h0.drop_src HOK.out] at rs
      have rd := hbw4.range 12 4
      rw [h0.drop_dst HOK.out] at rd
      have c5 : w4.cell? ⟨w1.heap.size, 5, none⟩ = some (.int .i64 f) := (hbw4.cell 5).trans (by show some (Value.int .i64 h0.off) = _; rw [HF.out])
      go_wp2_with (first
        | (refine wpList_value (by rfl) (exec_load_mid 37 _ rfl (w1.heap.size) 8 rfl _ _ rs Try.underlying37 rfl (sizeA4 _ HOK.out.src)) ?_)
        | (refine wpList_value (by rfl) (exec_load_mid 37 _ rfl (w1.heap.size) 12 rfl _ _ rd Try.underlying37 rfl (sizeA4 _ HOK.out.dst)) ?_))
      go_ret
      exact ⟨by rw [HD.out]; simp, hW⟩
    · cases b2
      · cases b3
        · go_enter Try.func11, Try.ntmps11
          go_wp2_with fail
          refine HP.out.mono ?_
          rintro e w1 ⟨rfl, hB1⟩
          go_wp2_with (first
            | (refine wpList_alloc_blk rfl 42 rfl H4.zero.cells zero4 ?_; intro w2 hbw2 hBw2 hsw2)
            | (refine wpList_store_all rfl 42 _ _ rfl w1.heap.size h0.cells rfl rfl 42 _ hbw2 (size4 _ HOK.out) (H4.cells_same _ _ HOK.out H4.zero_ok) (H4.one _) ?_; intro w3 hbw3 hgw3 hsw3; have hBw3 : Below w1.heap.size w1 w3 := bgrown hBw2 hgw3 (by omega) (by omega)); have rs := hbw3.range 8 4; rw [h0.drop_src HOK.out] at rs; have rd := hbw3.range 12 4; rw [h0.drop_dst HOK.out] at rd; have c5 : w3.cell? ⟨w1.heap.size, 5, none⟩ = some (.int .i64 f) := (hbw3.cell 5).trans (by show some (Value.int .i64 h0.off) = _; rw [HF.out])
            | (refine wpList_value (by rfl) (exec_load_mid 37 _ rfl (w1.heap.size) 8 rfl _ _ rs Try.underlying37 rfl (sizeA4 _ HOK.out.src)) ?_)
            | (refine wpList_value (by rfl) (exec_load_mid 37 _ rfl (w1.heap.size) 12 rfl _ _ rd Try.underlying37 rfl (sizeA4 _ HOK.out.dst)) ?_))
          have hW := bthen hB1 hBw3
          clear hB1 hbw2 hBw2 hsw2 hgw3 hsw3 hBw3
          refine (rplainA_any h0.src HOK.out.src w3).mono ?_
          rintro e w4 ⟨rfl, hb⟩
          rw [HPL.out]
          clear rs rd c5
          replace hW := bthen hW hb
          have hbw4 := hbw3.on hb
          clear hb hbw3
          have rs := hbw4.range 8 4
          rw [h0.drop_src HOK.out] at rs
          have rd := hbw4.range 12 4
          rw [h0.drop_dst HOK.out] at rd
          have c5 : w4.cell? ⟨w1.heap.size, 5, none⟩ = some (.int .i64 f) := (hbw4.cell 5).trans (by show some (Value.int .i64 h0.off) = _; rw [HF.out])
          go_wp2_with (first
            | (refine wpList_value (by rfl) (exec_load_mid 37 _ rfl (w1.heap.size) 8 rfl _ _ rs Try.underlying37 rfl (sizeA4 _ HOK.out.src)) ?_)
            | (refine wpList_value (by rfl) (exec_load_mid 37 _ rfl (w1.heap.size) 12 rfl _ _ rd Try.underlying37 rfl (sizeA4 _ HOK.out.dst)) ?_))
          refine (rmultiA_any h0.dst HOK.out.dst w4).mono ?_
          rintro e w5 ⟨rfl, hb⟩
          rw [HMU.out]
          clear rs rd c5
          replace hW := bthen hW hb
          have hbw5 := hbw4.on hb
          clear hb hbw4
          have rs := hbw5.range 8 4
          rw [h0.drop_src HOK.out] at rs
          have rd := hbw5.range 12 4
          rw [h0.drop_dst HOK.out] at rd
          have c5 : w5.cell? ⟨w1.heap.size, 5, none⟩ = some (.int .i64 f) := (hbw5.cell 5).trans (by show some (Value.int .i64 h0.off) = _; rw [HF.out])
          go_wp2_with (first
            | (refine wpList_value (by rfl) (exec_load_mid 37 _ rfl (w1.heap.size) 8 rfl _ _ rs Try.underlying37 rfl (sizeA4 _ HOK.out.src)) ?_)
            | (refine wpList_value (by rfl) (exec_load_mid 37 _ rfl (w1.heap.size) 12 rfl _ _ rd Try.underlying37 rfl (sizeA4 _ HOK.out.dst)) ?_))
          go_ret
          exact ⟨by rw [HD.out]; simp, hW⟩
        · cases b4
          · go_enter Try.func11, Try.ntmps11
            go_wp2_with fail
            refine HP.out.mono ?_
            rintro e w1 ⟨rfl, hB1⟩
            go_wp2_with (first
              | (refine wpList_alloc_blk rfl 42 rfl H4.zero.cells zero4 ?_; intro w2 hbw2 hBw2 hsw2)
              | (refine wpList_store_all rfl 42 _ _ rfl w1.heap.size h0.cells rfl rfl 42 _ hbw2 (size4 _ HOK.out) (H4.cells_same _ _ HOK.out H4.zero_ok) (H4.one _) ?_; intro w3 hbw3 hgw3 hsw3; have hBw3 : Below w1.heap.size w1 w3 := bgrown hBw2 hgw3 (by omega) (by omega)); have rs := hbw3.range 8 4; rw [h0.drop_src HOK.out] at rs; have rd := hbw3.range 12 4; rw [h0.drop_dst HOK.out] at rd; have c5 : w3.cell? ⟨w1.heap.size, 5, none⟩ = some (.int .i64 f) := (hbw3.cell 5).trans (by show some (Value.int .i64 h0.off) = _; rw [HF.out])
              | (refine wpList_value (by rfl) (exec_load_mid 37 _ rfl (w1.heap.size) 8 rfl _ _ rs Try.underlying37 rfl (sizeA4 _ HOK.out.src)) ?_)
              | (refine wpList_value (by rfl) (exec_load_mid 37 _ rfl (w1.heap.size) 12 rfl _ _ rd Try.underlying37 rfl (sizeA4 _ HOK.out.dst)) ?_))
            have hW := bthen hB1 hBw3
            clear hB1 hbw2 hBw2 hsw2 hgw3 hsw3 hBw3
            refine (rplainA_any h0.src HOK.out.src w3).mono ?_
            rintro e w4 ⟨rfl, hb⟩
            rw [HPL.out]
            clear rs rd c5
            replace hW := bthen hW hb
            have hbw4 := hbw3.on hb
            clear hb hbw3
            have rs := hbw4.range 8 4
            rw [h0.drop_src HOK.out] at rs
            have rd := hbw4.range 12 4
            rw [h0.drop_dst HOK.out] at rd
            have c5 : w4.cell? ⟨w1.heap.size, 5, none⟩ = some (.int .i64 f) := (hbw4.cell 5).trans (by show some (Value.int .i64 h0.off) = _; rw [HF.out])
            go_wp2_with (first
              | (refine wpList_value (by rfl) (exec_load_mid 37 _ rfl (w1.heap.size) 8 rfl _ _ rs Try.underlying37 rfl (sizeA4 _ HOK.out.src)) ?_)
              | (refine wpList_value (by rfl) (exec_load_mid 37 _ rfl (w1.heap.size) 12 rfl _ _ rd Try.underlying37 rfl (sizeA4 _ HOK.out.dst)) ?_))
            refine (rmultiA_any h0.dst HOK.out.dst w4).mono ?_
            rintro e w5 ⟨rfl, hb⟩
            rw [HMU.out]
            clear rs rd c5
            replace hW := bthen hW hb
            have hbw5 := hbw4.on hb
            clear hb hbw4
            have rs := hbw5.range 8 4
            rw [h0.drop_src HOK.out] at rs
            have rd := hbw5.range 12 4
            rw [h0.drop_dst HOK.out] at rd
            have c5 : w5.cell? ⟨w1.heap.size, 5, none⟩ = some (.int .i64 f) := (hbw5.cell 5).trans (by show some (Value.int .i64 h0.off) = _; rw [HF.out])
            go_wp2_with (first
              | (refine wpList_value (by rfl) (exec_load_mid 37 _ rfl (w1.heap.size) 8 rfl _ _ rs Try.underlying37 rfl (sizeA4 _ HOK.out.src)) ?_)
              | (refine wpList_value (by rfl) (exec_load_mid 37 _ rfl (w1.heap.size) 12 rfl _ _ rd Try.underlying37 rfl (sizeA4 _ HOK.out.dst)) ?_))
            refine (ris4_any l w5 hn).mono ?_
            rintro e w9 ⟨rfl, hb⟩
            rw [HIS.out]
            clear rs rd c5
            replace hW := bthen hW hb
            clear hb
            go_wp2_with fail
            go_ret
            exact ⟨by rw [HD.out]; simp, hW⟩
          · go_enter Try.func11, Try.ntmps11
            go_wp2_with fail
            refine HP.out.mono ?_
            rintro e w1 ⟨rfl, hB1⟩
            go_wp2_with (first
              | (refine wpList_alloc_blk rfl 42 rfl H4.zero.cells zero4 ?_; intro w2 hbw2 hBw2 hsw2)
              | (refine wpList_store_all rfl 42 _ _ rfl w1.heap.size h0.cells rfl rfl 42 _ hbw2 (size4 _ HOK.out) (H4.cells_same _ _ HOK.out H4.zero_ok) (H4.one _) ?_; intro w3 hbw3 hgw3 hsw3; have hBw3 : Below w1.heap.size w1 w3 := bgrown hBw2 hgw3 (by omega) (by omega)); have rs := hbw3.range 8 4; rw [h0.drop_src HOK.out] at rs; have rd := hbw3.range 12 4; rw [h0.drop_dst HOK.out] at rd; have c5 : w3.cell? ⟨w1.heap.size, 5, none⟩ = some (.int .i64 f) := (hbw3.cell 5).trans (by show some (Value.int .i64 h0.off) = _; rw [HF.out])
              | (refine wpList_value (by rfl) (exec_load_mid 37 _ rfl (w1.heap.size) 8 rfl _ _ rs Try.underlying37 rfl (sizeA4 _ HOK.out.src)) ?_)
              | (refine wpList_value (by rfl) (exec_load_mid 37 _ rfl (w1.heap.size) 12 rfl _ _ rd Try.underlying37 rfl (sizeA4 _ HOK.out.dst)) ?_))
            have hW := bthen hB1 hBw3
            clear hB1 hbw2 hBw2 hsw2 hgw3 hsw3 hBw3
            refine (rplainA_any h0.src HOK.out.src w3).mono ?_
            rintro e w4 ⟨rfl, hb⟩
            rw [HPL.out]
            clear rs rd c5
            replace hW := bthen hW hb
            have hbw4 := hbw3.on hb
            clear hb hbw3
            have rs := hbw4.range 8 4
            rw [h0.drop_src HOK.out] at rs
            have rd := hbw4.range 12 4
            rw [h0.drop_dst HOK.out] at rd
            have c5 : w4.cell? ⟨w1.heap.size, 5, none⟩ = some (.int .i64 f) := (hbw4.cell 5).trans (by show some (Value.int .i64 h0.off) = _; rw [HF.out])
            go_wp2_with (first
              | (refine wpList_value (by rfl) (exec_load_mid 37 _ rfl (w1.heap.size) 8 rfl _ _ rs Try.underlying37 rfl (sizeA4 _ HOK.out.src)) ?_)
              | (refine wpList_value (by rfl) (exec_load_mid 37 _ rfl (w1.heap.size) 12 rfl _ _ rd Try.underlying37 rfl (sizeA4 _ HOK.out.dst)) ?_))
            refine (rmultiA_any h0.dst HOK.out.dst w4).mono ?_
            rintro e w5 ⟨rfl, hb⟩
            rw [HMU.out]
            clear rs rd c5
            replace hW := bthen hW hb
            have hbw5 := hbw4.on hb
            clear hb hbw4
            have rs := hbw5.range 8 4
            rw [h0.drop_src HOK.out] at rs
            have rd := hbw5.range 12 4
            rw [h0.drop_dst HOK.out] at rd
            have c5 : w5.cell? ⟨w1.heap.size, 5, none⟩ = some (.int .i64 f) := (hbw5.cell 5).trans (by show some (Value.int .i64 h0.off) = _; rw [HF.out])
            go_wp2_with (first
              | (refine wpList_value (by rfl) (exec_load_mid 37 _ rfl (w1.heap.size) 8 rfl _ _ rs Try.underlying37 rfl (sizeA4 _ HOK.out.src)) ?_)
              | (refine wpList_value (by rfl) (exec_load_mid 37 _ rfl (w1.heap.size) 12 rfl _ _ rd Try.underlying37 rfl (sizeA4 _ HOK.out.dst)) ?_))
            refine (ris4_any l w5 hn).mono ?_
            rintro e w9 ⟨rfl, hb⟩
            rw [HIS.out]
            clear rs rd c5
            replace hW := bthen hW hb
            clear hb
            go_wp2_with fail
            go_ret
            exact ⟨by rw [HD.out]; simp, hW⟩
      · go_enter Try.func11, Try.ntmps11
        go_wp2_with fail
        refine HP.out.mono ?_
        rintro e w1 ⟨rfl, hB1⟩
        go_wp2_with (first
          | (refine wpList_alloc_blk rfl 42 rfl H4.zero.cells zero4 ?_; intro w2 hbw2 hBw2 hsw2)
          | (refine wpList_store_all rfl 42 _ _ rfl w1.heap.size h0.cells rfl rfl 42 _ hbw2 (size4 _ HOK.out) (H4.cells_same _ _ HOK.out H4.zero_ok) (H4.one _) ?_; intro w3 hbw3 hgw3 hsw3; have hBw3 : Below w1.heap.size w1 w3 := bgrown hBw2 hgw3 (by omega) (by omega)); have rs := hbw3.range 8 4; rw [h0.drop_src HOK.out] at rs; have rd := hbw3.range 12 4; rw [h0.drop_dst HOK.out] at rd; have c5 : w3.cell? ⟨w1.heap.size, 5, none⟩ = some (.int .i64 f) := (hbw3.cell 5).trans (by show some (Value.int .i64 h0.off) = _; rw [HF.out])
          | (refine wpList_value (by rfl) (exec_load_mid 37 _ rfl (w1.heap.size) 8 rfl _ _ rs Try.underlying37 rfl (sizeA4 _ HOK.out.src)) ?_)
          | (refine wpList_value (by rfl) (exec_load_mid 37 _ rfl (w1.heap.size) 12 rfl _ _ rd Try.underlying37 rfl (sizeA4 _ HOK.out.dst)) ?_))
        have hW := bthen hB1 hBw3
        clear hB1 hbw2 hBw2 hsw2 hgw3 hsw3 hBw3
        refine (rplainA_any h0.src HOK.out.src w3).mono ?_
        rintro e w4 ⟨rfl, hb⟩
        rw [HPL.out]
        clear rs rd c5
        replace hW := bthen hW hb
        have hbw4 := hbw3.on hb
        clear hb hbw3
        have rs := hbw4.range 8 4
        rw [h0.drop_src HOK.out] at rs
        have rd := hbw4.range 12 4
        rw [h0.drop_dst HOK.out] at rd
        have c5 : w4.cell? ⟨w1.heap.size, 5, none⟩ = some (.int .i64 f) := (hbw4.cell 5).trans (by show some (Value.int .i64 h0.off) = _; rw [HF.out])
        go_wp2_with (first
          | (refine wpList_value (by rfl) (exec_load_mid 37 _ rfl (w1.heap.size) 8 rfl _ _ rs Try.underlying37 rfl (sizeA4 _ HOK.out.src)) ?_)
          | (refine wpList_value (by rfl) (exec_load_mid 37 _ rfl (w1.heap.size) 12 rfl _ _ rd Try.underlying37 rfl (sizeA4 _ HOK.out.dst)) ?_))
        refine (rmultiA_any h0.dst HOK.out.dst w4).mono ?_
        rintro e w5 ⟨rfl, hb⟩
        rw [HMU.out]
        clear rs rd c5
        replace hW := bthen hW hb
        have hbw5 := hbw4.on hb
        clear hb hbw4
        have rs := hbw5.range 8 4
        rw [h0.drop_src HOK.out] at rs
        have rd := hbw5.range 12 4
        rw [h0.drop_dst HOK.out] at rd
        have c5 : w5.cell? ⟨w1.heap.size, 5, none⟩ = some (.int .i64 f) := (hbw5.cell 5).trans (by show some (Value.int .i64 h0.off) = _; rw [HF.out])
        go_wp2_with (first
          | (refine wpList_value (by rfl) (exec_load_mid 37 _ rfl (w1.heap.size) 8 rfl _ _ rs Try.underlying37 rfl (sizeA4 _ HOK.out.src)) ?_)
          | (refine wpList_value (by rfl) (exec_load_mid 37 _ rfl (w1.heap.size) 12 rfl _ _ rd Try.underlying37 rfl (sizeA4 _ HOK.out.dst)) ?_))
        go_ret
        exact ⟨by rw [HD.out]; simp, hW⟩

set_option maxHeartbeats 4000000 in
theorem rpermSix_any (l : List UInt8) (big : Bool) (w : World) (hn : l.length ≤ 1099511627776) :
    Calls Try.prog 13 #[str l, .bool big] w fun e w' => e = .returned (.bool (sixF l big)) ∧ Below w.heap.size w w' := by
  have P := rparse6_any l w hn
  have hok := par6_ok l
  have hd : sixF l big = sixF l big := rfl
  conv at hd => rhs; unfold sixF
  cases hp : par6 l with
  | mk h0 er =>
  simp only [hp] at P hok hd
  obtain ⟨b1, hb1⟩ : ∃ b, pl6 h0.src = b := ⟨_, rfl⟩
  obtain ⟨b2, hb2⟩ : ∃ b, mu6 h0.dst = b := ⟨_, rfl⟩
  obtain ⟨b4, hb4⟩ : ∃ b, is6F l = b := ⟨_, rfl⟩
  obtain ⟨b0, hb0⟩ : ∃ b, (er == 0) = b := ⟨_, rfl⟩
  rw [hb0, hb1, hb2, hb4] at hd
  have HPL := Lib.hid hb1
  have HMU := Lib.hid hb2
  have HIS := Lib.hid hb4
  have HP := Lib.hid P
  have HOK := Lib.hid hok
  have HD := Lib.hid hd
  clear P hok hd hp hb1 hb2 hb4
  cases b0
  · go_enter Try.func13, Try.ntmps13
    go_wp2_with fail
    refine HP.out.mono ?_
    rintro e w1 ⟨rfl, hB1⟩
    go_wp2_with (first
      | (refine wpList_alloc_blk rfl 44 rfl H6.zero.cells zero6 ?_; intro w2 hbw2 hBw2 hsw2)
      | (refine wpList_store_all rfl 44 _ _ rfl w1.heap.size h0.cells rfl rfl 44 _ hbw2 (size6 _ HOK.out) (H6.cells_same _ _ HOK.out H6.zero_ok) (H6.one _) ?_; intro w3 hbw3 hgw3 hsw3; have hBw3 : Below w1.heap.size w1 w3 := bgrown hBw2 hgw3 (by omega) (by omega)); have rs := hbw3.range 5 16; rw [h0.drop_src HOK.out] at rs; have rd := hbw3.range 21 16; rw [h0.drop_dst HOK.out] at rd
      | (refine wpList_value (by rfl) (exec_load_mid 33 _ rfl (w1.heap.size) 5 rfl _ _ rs Try.underlying33 rfl (size24 _ HOK.out.src)) ?_)
      | (refine wpList_value (by rfl) (exec_load_mid 33 _ rfl (w1.heap.size) 21 rfl _ _ rd Try.underlying33 rfl (size24 _ HOK.out.dst)) ?_))
    have hW := bthen hB1 hBw3
    clear hB1 hbw2 hBw2 hsw2 hgw3 hsw3 hBw3
    go_ret
    exact ⟨by rw [HD.out]; simp, hW⟩
  · cases b1
    · go_enter Try.func13, Try.ntmps13
      go_wp2_with fail
      refine HP.out.mono ?_
      rintro e w1 ⟨rfl, hB1⟩
      go_wp2_with (first
        | (refine wpList_alloc_blk rfl 44 rfl H6.zero.cells zero6 ?_; intro w2 hbw2 hBw2 hsw2)
        | (refine wpList_store_all rfl 44 _ _ rfl w1.heap.size h0.cells rfl rfl 44 _ hbw2 (size6 _ HOK.out) (H6.cells_same _ _ HOK.out H6.zero_ok) (H6.one _) ?_; intro w3 hbw3 hgw3 hsw3; have hBw3 : Below w1.heap.size w1 w3 := bgrown hBw2 hgw3 (by omega) (by omega)); have rs := hbw3.range 5 16; rw [h0.drop_src HOK.out] at rs; have rd := hbw3.range 21 16; rw [h0.drop_dst HOK.out] at rd
        | (refine wpList_value (by rfl) (exec_load_mid 33 _ rfl (w1.heap.size) 5 rfl _ _ rs Try.underlying33 rfl (size24 _ HOK.out.src)) ?_)
        | (refine wpList_value (by rfl) (exec_load_mid 33 _ rfl (w1.heap.size) 21 rfl _ _ rd Try.underlying33 rfl (size24 _ HOK.out.dst)) ?_))
      have hW := bthen hB1 hBw3
      clear hB1 hbw2 hBw2 hsw2 hgw3 hsw3 hBw3
      refine (rplain6_any h0.src HOK.out.src w3).mono ?_
      rintro e w4 ⟨rfl, hb⟩
      rw [HPL.out]
      clear rs rd
      replace hW := bthen hW hb
      have hbw4 := hbw3.on hb
      clear hb hbw3
      have rs := hbw4.range 5 16
      rw [h0.drop_src HOK.out] at rs
      have rd := hbw4.range 21 16
      rw [h0.drop_dst HOK.out] at rd
      go_wp2_with (first
        | (refine wpList_value (by rfl) (exec_load_mid 33 _ rfl (w1.heap.size) 5 rfl _ _ rs Try.underlying33 rfl (size24 _ HOK.out.src)) ?_)
        | (refine wpList_value (by rfl) (exec_load_mid 33 _ rfl (w1.heap.size) 21 rfl _ _ rd Try.underlying33 rfl (size24 _ HOK.out.dst)) ?_))
      go_ret
      exact ⟨by rw [HD.out]; simp, hW⟩
    · cases big
      · cases b2
        · cases b4
          · go_enter Try.func13, Try.ntmps13
            go_wp2_with fail
            refine HP.out.mono ?_
            rintro e w1 ⟨rfl, hB1⟩
            go_wp2_with (first
              | (refine wpList_alloc_blk rfl 44 rfl H6.zero.cells zero6 ?_; intro w2 hbw2 hBw2 hsw2)
              | (refine wpList_store_all rfl 44 _ _ rfl w1.heap.size h0.cells rfl rfl 44 _ hbw2 (size6 _ HOK.out) (H6.cells_same _ _ HOK.out H6.zero_ok) (H6.one _) ?_; intro w3 hbw3 hgw3 hsw3; have hBw3 : Below w1.heap.size w1 w3 := bgrown hBw2 hgw3 (by omega) (by omega)); have rs := hbw3.range 5 16; rw [h0.drop_src HOK.out] at rs; have rd := hbw3.range 21 16; rw [h0.drop_dst HOK.out] at rd
              | (refine wpList_value (by rfl) (exec_load_mid 33 _ rfl (w1.heap.size) 5 rfl _ _ rs Try.underlying33 rfl (size24 _ HOK.out.src)) ?_)
              | (refine wpList_value (by rfl) (exec_load_mid 33 _ rfl (w1.heap.size) 21 rfl _ _ rd Try.underlying33 rfl (size24 _ HOK.out.dst)) ?_))
            have hW := bthen hB1 hBw3
            clear hB1 hbw2 hBw2 hsw2 hgw3 hsw3 hBw3
            refine (rplain6_any h0.src HOK.out.src w3).mono ?_
            rintro e w4 ⟨rfl, hb⟩
            rw [HPL.out]
            clear rs rd
            replace hW := bthen hW hb
            have hbw4 := hbw3.on hb
            clear hb hbw3
            have rs := hbw4.range 5 16
            rw [h0.drop_src HOK.out] at rs
            have rd := hbw4.range 21 16
            rw [h0.drop_dst HOK.out] at rd
            go_wp2_with (first
              | (refine wpList_value (by rfl) (exec_load_mid 33 _ rfl (w1.heap.size) 5 rfl _ _ rs Try.underlying33 rfl (size24 _ HOK.out.src)) ?_)
              | (refine wpList_value (by rfl) (exec_load_mid 33 _ rfl (w1.heap.size) 21 rfl _ _ rd Try.underlying33 rfl (size24 _ HOK.out.dst)) ?_))
            refine (rmulti6_any h0.dst HOK.out.dst w4).mono ?_
            rintro e w5 ⟨rfl, hb⟩
            rw [HMU.out]
            clear rs rd
            replace hW := bthen hW hb
            have hbw5 := hbw4.on hb
            clear hb hbw4
            have rs := hbw5.range 5 16
            rw [h0.drop_src HOK.out] at rs
            have rd := hbw5.range 21 16
            rw [h0.drop_dst HOK.out] at rd
            go_wp2_with (first
              | (refine wpList_value (by rfl) (exec_load_mid 33 _ rfl (w1.heap.size) 5 rfl _ _ rs Try.underlying33 rfl (size24 _ HOK.out.src)) ?_)
              | (refine wpList_value (by rfl) (exec_load_mid 33 _ rfl (w1.heap.size) 21 rfl _ _ rd Try.underlying33 rfl (size24 _ HOK.out.dst)) ?_))
            refine (ris6_any l w5 hn).mono ?_
            rintro e w9 ⟨rfl, hb⟩
            rw [HIS.out]
            clear rs rd
            replace hW := bthen hW hb
            clear hb
            go_wp2_with fail
            go_ret
            exact ⟨by rw [HD.out]; simp, hW⟩
          · go_enter Try.func13, Try.ntmps13
            go_wp2_with fail
            refine HP.out.mono ?_
            rintro e w1 ⟨rfl, hB1⟩
            go_wp2_with (first
              | (refine wpList_alloc_blk rfl 44 rfl H6.zero.cells zero6 ?_; intro w2 hbw2 hBw2 hsw2)
              | (refine wpList_store_all rfl 44 _ _ rfl w1.heap.size h0.cells rfl rfl 44 _ hbw2 (size6 _ HOK.out) (H6.cells_same _ _ HOK.out H6.zero_ok) (H6.one _) ?_; intro w3 hbw3 hgw3 hsw3; have hBw3 : Below w1.heap.size w1 w3 := bgrown hBw2 hgw3 (by omega) (by omega)); have rs := hbw3.range 5 16; rw [h0.drop_src HOK.out] at rs; have rd := hbw3.range 21 16; rw [h0.drop_dst HOK.out] at rd
              | (refine wpList_value (by rfl) (exec_load_mid 33 _ rfl (w1.heap.size) 5 rfl _ _ rs Try.underlying33 rfl (size24 _ HOK.out.src)) ?_)
              | (refine wpList_value (by rfl) (exec_load_mid 33 _ rfl (w1.heap.size) 21 rfl _ _ rd Try.underlying33 rfl (size24 _ HOK.out.dst)) ?_))
            have hW := bthen hB1 hBw3
            clear hB1 hbw2 hBw2 hsw2 hgw3 hsw3 hBw3
            refine (rplain6_any h0.src HOK.out.src w3).mono ?_
            rintro e w4 ⟨rfl, hb⟩
            rw [HPL.out]
            clear rs rd
            replace hW := bthen hW hb
            have hbw4 := hbw3.on hb
            clear hb hbw3
            have rs := hbw4.range 5 16
            rw [h0.drop_src HOK.out] at rs
            have rd := hbw4.range 21 16
            rw [h0.drop_dst HOK.out] at rd
            go_wp2_with (first
              | (refine wpList_value (by rfl) (exec_load_mid 33 _ rfl (w1.heap.size) 5 rfl _ _ rs Try.underlying33 rfl (size24 _ HOK.out.src)) ?_)
              | (refine wpList_value (by rfl) (exec_load_mid 33 _ rfl (w1.heap.size) 21 rfl _ _ rd Try.underlying33 rfl (size24 _ HOK.out.dst)) ?_))
            refine (rmulti6_any h0.dst HOK.out.dst w4).mono ?_
            rintro e w5 ⟨rfl, hb⟩
            rw [HMU.out]
            clear rs rd
            replace hW := bthen hW hb
            have hbw5 := hbw4.on hb
            clear hb hbw4
            have rs := hbw5.range 5 16
            rw [h0.drop_src HOK.out] at rs
            have rd := hbw5.range 21 16
            rw [h0.drop_dst HOK.out] at rd
            go_wp2_with (first
              | (refine wpList_value (by rfl) (exec_load_mid 33 _ rfl (w1.heap.size) 5 rfl _ _ rs Try.underlying33 rfl (size24 _ HOK.out.src)) ?_)
              | (refine wpList_value (by rfl) (exec_load_mid 33 _ rfl (w1.heap.size) 21 rfl _ _ rd Try.underlying33 rfl (size24 _ HOK.out.dst)) ?_))
            refine (ris6_any l w5 hn).mono ?_
            rintro e w9 ⟨rfl, hb⟩
            rw [HIS.out]
            clear rs rd
            replace hW := bthen hW hb
            clear hb
            go_wp2_with fail
            go_ret
            exact ⟨by rw [HD.out]; simp, hW⟩
        · go_enter Try.func13, Try.ntmps13
          go_wp2_with fail
          refine HP.out.mono ?_
          rintro e w1 ⟨rfl, hB1⟩
          go_wp2_with (first
            | (refine wpList_alloc_blk rfl 44 rfl H6.zero.cells zero6 ?_; intro w2 hbw2 hBw2 hsw2)
            | (refine wpList_store_all rfl 44 _ _ rfl w1.heap.size h0.cells rfl rfl 44 _ hbw2 (size6 _ HOK.out) (H6.cells_same _ _ HOK.out H6.zero_ok) (H6.one _) ?_; intro w3 hbw3 hgw3 hsw3; have hBw3 : Below w1.heap.size w1 w3 := bgrown hBw2 hgw3 (by omega) (by omega)); have rs := hbw3.range 5 16; rw [h0.drop_src HOK.out] at rs; have rd := hbw3.range 21 16; rw [h0.drop_dst HOK.out] at rd
            | (refine wpList_value (by rfl) (exec_load_mid 33 _ rfl (w1.heap.size) 5 rfl _ _ rs Try.underlying33 rfl (size24 _ HOK.out.src)) ?_)
            | (refine wpList_value (by rfl) (exec_load_mid 33 _ rfl (w1.heap.size) 21 rfl _ _ rd Try.underlying33 rfl (size24 _ HOK.out.dst)) ?_))
          have hW := bthen hB1 hBw3
          clear hB1 hbw2 hBw2 hsw2 hgw3 hsw3 hBw3
          refine (rplain6_any h0.src HOK.out.src w3).mono ?_
          rintro e w4 ⟨rfl, hb⟩
          rw [HPL.out]
          clear rs rd
          replace hW := bthen hW hb
          have hbw4 := hbw3.on hb
          clear hb hbw3
          have rs := hbw4.range 5 16
          rw [h0.drop_src HOK.out] at rs
          have rd := hbw4.range 21 16
          rw [h0.drop_dst HOK.out] at rd
          go_wp2_with (first
            | (refine wpList_value (by rfl) (exec_load_mid 33 _ rfl (w1.heap.size) 5 rfl _ _ rs Try.underlying33 rfl (size24 _ HOK.out.src)) ?_)
            | (refine wpList_value (by rfl) (exec_load_mid 33 _ rfl (w1.heap.size) 21 rfl _ _ rd Try.underlying33 rfl (size24 _ HOK.out.dst)) ?_))
          refine (rmulti6_any h0.dst HOK.out.dst w4).mono ?_
          rintro e w5 ⟨rfl, hb⟩
          rw [HMU.out]
          clear rs rd
          replace hW := bthen hW hb
          have hbw5 := hbw4.on hb
          clear hb hbw4
          have rs := hbw5.range 5 16
          rw [h0.drop_src HOK.out] at rs
          have rd := hbw5.range 21 16
          rw [h0.drop_dst HOK.out] at rd
          go_wp2_with (first
            | (refine wpList_value (by rfl) (exec_load_mid 33 _ rfl (w1.heap.size) 5 rfl _ _ rs Try.underlying33 rfl (size24 _ HOK.out.src)) ?_)
            | (refine wpList_value (by rfl) (exec_load_mid 33 _ rfl (w1.heap.size) 21 rfl _ _ rd Try.underlying33 rfl (size24 _ HOK.out.dst)) ?_))
          go_ret
          exact ⟨by rw [HD.out]; simp, hW⟩
      · cases b4
        · go_enter Try.func13, Try.ntmps13
          go_wp2_with fail
          refine HP.out.mono ?_
          rintro e w1 ⟨rfl, hB1⟩
          go_wp2_with (first
            | (refine wpList_alloc_blk rfl 44 rfl H6.zero.cells zero6 ?_; intro w2 hbw2 hBw2 hsw2)
            | (refine wpList_store_all rfl 44 _ _ rfl w1.heap.size h0.cells rfl rfl 44 _ hbw2 (size6 _ HOK.out) (H6.cells_same _ _ HOK.out H6.zero_ok) (H6.one _) ?_; intro w3 hbw3 hgw3 hsw3; have hBw3 : Below w1.heap.size w1 w3 := bgrown hBw2 hgw3 (by omega) (by omega)); have rs := hbw3.range 5 16; rw [h0.drop_src HOK.out] at rs; have rd := hbw3.range 21 16; rw [h0.drop_dst HOK.out] at rd
            | (refine wpList_value (by rfl) (exec_load_mid 33 _ rfl (w1.heap.size) 5 rfl _ _ rs Try.underlying33 rfl (size24 _ HOK.out.src)) ?_)
            | (refine wpList_value (by rfl) (exec_load_mid 33 _ rfl (w1.heap.size) 21 rfl _ _ rd Try.underlying33 rfl (size24 _ HOK.out.dst)) ?_))
          have hW := bthen hB1 hBw3
          clear hB1 hbw2 hBw2 hsw2 hgw3 hsw3 hBw3
          refine (rplain6_any h0.src HOK.out.src w3).mono ?_
          rintro e w4 ⟨rfl, hb⟩
          rw [HPL.out]
          clear rs rd
          replace hW := bthen hW hb
          have hbw4 := hbw3.on hb
          clear hb hbw3
          have rs := hbw4.range 5 16
          rw [h0.drop_src HOK.out] at rs
          have rd := hbw4.range 21 16
          rw [h0.drop_dst HOK.out] at rd
          go_wp2_with (first
            | (refine wpList_value (by rfl) (exec_load_mid 33 _ rfl (w1.heap.size) 5 rfl _ _ rs Try.underlying33 rfl (size24 _ HOK.out.src)) ?_)
            | (refine wpList_value (by rfl) (exec_load_mid 33 _ rfl (w1.heap.size) 21 rfl _ _ rd Try.underlying33 rfl (size24 _ HOK.out.dst)) ?_))
          refine (ris6_any l w4 hn).mono ?_
          rintro e w9 ⟨rfl, hb⟩
          rw [HIS.out]
          clear rs rd
          replace hW := bthen hW hb
          clear hb
          go_wp2_with fail
          go_ret
          exact ⟨by rw [HD.out]; simp, hW⟩
        · go_enter Try.func13, Try.ntmps13
          go_wp2_with fail
          refine HP.out.mono ?_
          rintro e w1 ⟨rfl, hB1⟩
          go_wp2_with (first
            | (refine wpList_alloc_blk rfl 44 rfl H6.zero.cells zero6 ?_; intro w2 hbw2 hBw2 hsw2)
            | (refine wpList_store_all rfl 44 _ _ rfl w1.heap.size h0.cells rfl rfl 44 _ hbw2 (size6 _ HOK.out) (H6.cells_same _ _ HOK.out H6.zero_ok) (H6.one _) ?_; intro w3 hbw3 hgw3 hsw3; have hBw3 : Below w1.heap.size w1 w3 := bgrown hBw2 hgw3 (by omega) (by omega)); have rs := hbw3.range 5 16; rw [h0.drop_src HOK.out] at rs; have rd := hbw3.range 21 16; rw [h0.drop_dst HOK.out] at rd
            | (refine wpList_value (by rfl) (exec_load_mid 33 _ rfl (w1.heap.size) 5 rfl _ _ rs Try.underlying33 rfl (size24 _ HOK.out.src)) ?_)
            | (refine wpList_value (by rfl) (exec_load_mid 33 _ rfl (w1.heap.size) 21 rfl _ _ rd Try.underlying33 rfl (size24 _ HOK.out.dst)) ?_))
          have hW := bthen hB1 hBw3
          clear hB1 hbw2 hBw2 hsw2 hgw3 hsw3 hBw3
          refine (rplain6_any h0.src HOK.out.src w3).mono ?_
          rintro e w4 ⟨rfl, hb⟩
          rw [HPL.out]
          clear rs rd
          replace hW := bthen hW hb
          have hbw4 := hbw3.on hb
          clear hb hbw3
          have rs := hbw4.range 5 16
          rw [h0.drop_src HOK.out] at rs
          have rd := hbw4.range 21 16
          rw [h0.drop_dst HOK.out] at rd
          go_wp2_with (first
            | (refine wpList_value (by rfl) (exec_load_mid 33 _ rfl (w1.heap.size) 5 rfl _ _ rs Try.underlying33 rfl (size24 _ HOK.out.src)) ?_)
            | (refine wpList_value (by rfl) (exec_load_mid 33 _ rfl (w1.heap.size) 21 rfl _ _ rd Try.underlying33 rfl (size24 _ HOK.out.dst)) ?_))
          refine (ris6_any l w4 hn).mono ?_
          rintro e w9 ⟨rfl, hb⟩
          rw [HIS.out]
          clear rs rd
          replace hW := bthen hW hb
          clear hb
          go_wp2_with fail
          go_ret
          exact ⟨by rw [HD.out]; simp, hW⟩
end Go.Proofs.Ytimkgkokidhhpaa

/- What permit.Four, Six, Either and the references' compute. No condition but sizes. -/
import Derived.Test.YtimkgkokidhhpaaPerm3
namespace Go.Proofs.Ytimkgkokidhhpaa
open Go.RowKit
set_option linter.unusedVariables false
set_option maxRecDepth 20000
set_option linter.unusedSimpArgs false

def fourF (l : List UInt8) : Bool := (par4 l).2 == 0 && (plA (par4 l).1.src && (!muA (par4 l).1.dst && ((par4 l).1.off == 0 && !is4F l)))
def sixF (l : List UInt8) (big : Bool) : Bool := (par6 l).2 == 0 && (pl6 (par6 l).1.src && ((big || !mu6 (par6 l).1.dst) && !is6F l))
def eitherF (l : List UInt8) : Int := if (par4 l).2 = 0 then 4 else if (par6 l).2 = 0 then 6 else 0
theorem row_vals {e : TypeId} (w : World) (cs : Array Value) (n g : Nat) (hn : cs.size = n) (hg : w.heap.size = g) : Row (w.alloc (.cells cs e)) (w.alloc (.cells cs e)).heap.size 1 (some ⟨g, 0, none⟩) n cs.toList := by
  subst hg
  have := Row.new (e := e) (n := n) (sz := 1) w cs (by omega)
  rw [World.size_alloc]
  exact this
theorem wanted_undef {ops : Array Oper} {o : Oper} {a : Act} {g : Nat} {want : Bool} {d : Tmp} (h : o.guard = some (g, want)) (hd : dstOf ops g = some d) (hv : a.eval (.tmp d) = undef) : Region.wanted o (yielded ops a.tmps) = false := by
  unfold Region.wanted
  rw [h]
  simp only
  have hy : yielded ops a.tmps g = none := by
    unfold yielded
    have hd' : (ops[g]?).bind (·.dst) = some d := hd
    rw [hd']
    simp only [Option.bind_some]
    have hv' : a.tmps[d]?.getD undef = undef := by simpa [Act.eval] using hv
    cases ht : a.tmps[d]? with
    | none => rfl
    | some v =>
      rw [ht] at hv'
      simp only [Option.getD_some] at hv'
      rw [hv']
      rfl
  rw [hy]
  cases want <;> rfl
theorem zeroErr (w : World) : (zeroValue 34).run Try.prog w = .ok (.int .i64 0) w := by kernel_rfl

set_option maxHeartbeats 4000000 in
theorem permFour_any (A : Option Addr) (n c : Nat) (l : List UInt8) (w : World) (h : Row w w.heap.size 1 A n (bv l)) (hc : n ≤ c) (hcm : c ≤ maxLen) (hn : n ≤ 1099511627776) :
    Calls Try.prog 10 #[.slice A n c] w fun e w' => e = .returned (.bool (fourF l)) ∧ Below w.heap.size w w' := by
  have P := fun W (hB : Below w.heap.size w W) => parse4_any A n c l W ((h.below hB).more hB.size) hc hcm hn
  have hok := par4_ok l
  have hd : fourF l = fourF l := rfl
  conv at hd => rhs; unfold fourF
  cases hp : par4 l with
  | mk h0 er =>
  simp only [hp] at P hok hd
  have HP := Lib.hid P
  have HOK := Lib.hid hok
  have HD := Lib.hid hd
  have HR := Lib.hid h
  clear P hok hd hp h
  go_enter Try.func10, Try.ntmps10
  go_wp2_with fail
  obtain ⟨w1, hw1⟩ : ∃ x, x = w.alloc (.cells #[.slice A n c] 22) := ⟨_, rfl⟩
  rw [← hw1]
  have hk1 : Blk w1 w.heap.size 22 [.slice A n c] := by rw [hw1]; exact Blk.new w _ _
  have hB1 : Below w.heap.size w w1 := by rw [hw1]; exact (Below.refl _ _).alloc (Nat.le_refl _) _
  have hs1 : w1.heap.size = w.heap.size + 1 := by rw [hw1]; simp
  clear hw1
  refine (HP.out w1 hB1).mono ?_
  rintro e w2 ⟨rfl, hB2⟩
  replace hk1 := hk1.on hB2
  replace hB1 := bthen hB1 hB2
  clear hB2
  go_wp2_with (first
    | (refine wpList_alloc_blk rfl 42 rfl H4.zero.cells zero4 ?_; intro w3 hbw3 hBw3 hsw3; have hbe := Blk.newN w3 34 [.int .i64 0] (w2.heap.size + 1) hsw3)
    | (refine wpList_store_all rfl 42 _ _ rfl w2.heap.size h0.cells rfl rfl 42 _ (hbw3.alloc _) (size4 _ HOK.out) (H4.cells_same _ _ HOK.out H4.zero_ok) (H4.one _) ?_; intro w4 hbw4 hgw4 hsw4; have be4 := hbe.grown hgw4 (by simp); have ce := be4.cell 0; have fe := be4.frozen 0; have hB4 : Below w2.heap.size w2 w4 := bgrown (hBw3.alloc hBw3.size _) hgw4 (by simp; omega) (Nat.le_refl _)))
  have hb5 := hbw4.far (p := ⟨w2.heap.size + 1, 0, none⟩) (by simp) (.int .i64 er)
  have he5 := be4.set 0 (.int .i64 er)
  have hB5 := hB4.setCell (p := ⟨w2.heap.size + 1, 0, none⟩) (by simp) (.int .i64 er)
  replace hk1 := hk1.on hB5
  replace hB1 := bthen hB1 hB5
  have hs5 : (w4.setCell ⟨w2.heap.size + 1, 0, none⟩ (.int .i64 er)).heap.size = w2.heap.size + 1 + 1 := by simp [World.setCell, hsw4, hsw3]
  generalize w4.setCell ⟨w2.heap.size + 1, 0, none⟩ (.int .i64 er) = w5 at hb5 he5 hk1 hB1 hs5 ⊢
  clear hbw3 hBw3 hbe hbw4 hgw4 be4 ce fe hB4 hB5 hsw4
  have hle := alloc_below w5 (.cells #[.func (.func 23) #[] #[.pointer (some ⟨w2.heap.size + 1, 0, none⟩)], .func (.func 24) #[] #[.pointer (some ⟨w2.heap.size, 0, none⟩)], .func (.func 26) #[] #[.pointer (some ⟨w2.heap.size, 0, none⟩)], .func (.func 28) #[] #[.pointer (some ⟨w2.heap.size, 0, none⟩)], .func (.func 29) #[] #[.pointer (some ⟨w.heap.size, 0, none⟩)]] 23)
  have hr6 := row_vals (e := 23) w5 #[.func (.func 23) #[] #[.pointer (some ⟨w2.heap.size + 1, 0, none⟩)], .func (.func 24) #[] #[.pointer (some ⟨w2.heap.size, 0, none⟩)], .func (.func 26) #[] #[.pointer (some ⟨w2.heap.size, 0, none⟩)], .func (.func 28) #[] #[.pointer (some ⟨w2.heap.size, 0, none⟩)], .func (.func 29) #[] #[.pointer (some ⟨w.heap.size, 0, none⟩)]] 5 _ rfl hs5
  have hb6 := hb5.on hle
  have he6 := he5.on hle
  have hk6 := hk1.on hle
  have hB6 := bthen hB1 hle
  generalize w5.alloc (.cells #[.func (.func 23) #[] #[.pointer (some ⟨w2.heap.size + 1, 0, none⟩)], .func (.func 24) #[] #[.pointer (some ⟨w2.heap.size, 0, none⟩)], .func (.func 26) #[] #[.pointer (some ⟨w2.heap.size, 0, none⟩)], .func (.func 28) #[] #[.pointer (some ⟨w2.heap.size, 0, none⟩)], .func (.func 29) #[] #[.pointer (some ⟨w.heap.size, 0, none⟩)]] 23) = w6 at *
  refine (all_any _ 5 5 [.func (.func 23) #[] #[.pointer (some ⟨w2.heap.size + 1, 0, none⟩)], .func (.func 24) #[] #[.pointer (some ⟨w2.heap.size, 0, none⟩)], .func (.func 26) #[] #[.pointer (some ⟨w2.heap.size, 0, none⟩)], .func (.func 28) #[] #[.pointer (some ⟨w2.heap.size, 0, none⟩)], .func (.func 29) #[] #[.pointer (some ⟨w.heap.size, 0, none⟩)]] [er == 0, plA h0.src, !muA h0.dst, h0.off == 0, !is4F l] w6 ⟨hr6, rfl, ?_⟩ (by omega)).mono ?_
  · intro k v b hv hr
    rcases k with _|_|_|_|_|k
    · simp only [List.getElem?_cons_zero, List.getElem?_cons_succ, Option.some.injEq, Nat.zero_add] at hv hr
      subst hv
      subst hr
      exact ⟨_, _, rfl, fun W => by kernel_rfl, fun W hB => four1_any _ _ W (he6.on hB)⟩
    · simp only [List.getElem?_cons_zero, List.getElem?_cons_succ, Option.some.injEq, Nat.zero_add] at hv hr
      subst hv
      subst hr
      exact ⟨_, _, rfl, fun W => by kernel_rfl, fun W hB => four2_any _ h0 HOK.out W (hb6.on hB)⟩
    · simp only [List.getElem?_cons_zero, List.getElem?_cons_succ, Option.some.injEq, Nat.zero_add] at hv hr
      subst hv
      subst hr
      exact ⟨_, _, rfl, fun W => by kernel_rfl, fun W hB => four3_any _ h0 HOK.out W (hb6.on hB)⟩
    · simp only [List.getElem?_cons_zero, List.getElem?_cons_succ, Option.some.injEq, Nat.zero_add] at hv hr
      subst hv
      subst hr
      exact ⟨_, _, rfl, fun W => by kernel_rfl, fun W hB => four4_any _ h0 HOK.out W (hb6.on hB)⟩
    · simp only [List.getElem?_cons_zero, List.getElem?_cons_succ, Option.some.injEq, Nat.zero_add] at hv hr
      subst hv
      subst hr
      exact ⟨_, _, rfl, fun W => by kernel_rfl, fun W hB => four5_any _ A n c l W (hk6.on hB) ((HR.out.below (bthen hB6 hB)).more (bthen hB6 hB).size) hc hcm hn⟩
    · simp at hv
  rintro e w7 ⟨rfl, hb7⟩
  generalize hr : ([er == 0, plA h0.src, !muA h0.dst, h0.off == 0, !is4F l] : List Bool).all id = r
  have hd2 := HD.out.trans (show _ = r by rw [← hr]; simp)
  go_wp2
  go_ret
  exact ⟨by rw [hd2]; rfl, bthen hB6 hb7⟩

set_option maxHeartbeats 4000000 in
theorem permSix_any (A : Option Addr) (n c : Nat) (l : List UInt8) (big : Bool) (w : World) (h : Row w w.heap.size 1 A n (bv l)) (hc : n ≤ c) (hcm : c ≤ maxLen) (hn : n ≤ 1099511627776) :
    Calls Try.prog 12 #[.slice A n c, .bool big] w fun e w' => e = .returned (.bool (sixF l big)) ∧ Below w.heap.size w w' := by
  have P := fun W (hB : Below w.heap.size w W) => parse6_any A n c l W ((h.below hB).more hB.size) hc hcm hn
  have hok := par6_ok l
  have hd : sixF l big = sixF l big := rfl
  conv at hd => rhs; unfold sixF
  cases hp : par6 l with
  | mk h0 er =>
  simp only [hp] at P hok hd
  have HP := Lib.hid P
  have HOK := Lib.hid hok
  have HD := Lib.hid hd
  have HR := Lib.hid h
  clear P hok hd hp h
  go_enter Try.func12, Try.ntmps12
  go_wp2_with fail
  obtain ⟨w1, hw1⟩ : ∃ x, x = w.alloc (.cells #[.slice A n c] 22) := ⟨_, rfl⟩
  rw [← hw1]
  have hk1 : Blk w1 w.heap.size 22 [.slice A n c] := by rw [hw1]; exact Blk.new w _ _
  have hB1 : Below w.heap.size w w1 := by rw [hw1]; exact (Below.refl _ _).alloc (Nat.le_refl _) _
  have hs1 : w1.heap.size = w.heap.size + 1 := by rw [hw1]; simp
  clear hw1
  rw [← hs1]
  obtain ⟨w1b, hw1⟩ : ∃ x, x = w1.alloc (.cells #[.bool big] 4) := ⟨_, rfl⟩
  rw [← hw1]
  have hkb : Blk w1b w1.heap.size 4 [.bool big] := by rw [hw1]; exact Blk.new w1 _ _
  have hBb : Below w1.heap.size w1 w1b := by rw [hw1]; exact (Below.refl _ _).alloc (Nat.le_refl _) _
  replace hk1 := hk1.on hBb
  replace hB1 := bthen hB1 hBb
  clear hw1 hBb
  refine (HP.out w1b hB1).mono ?_
  rintro e w2 ⟨rfl, hB2⟩
  replace hk1 := hk1.on hB2
  replace hkb := hkb.on hB2
  replace hB1 := bthen hB1 hB2
  clear hB2
  go_wp2_with (first
    | (refine wpList_alloc_blk rfl 44 rfl H6.zero.cells zero6 ?_; intro w3 hbw3 hBw3 hsw3; have hbe := Blk.newN w3 34 [.int .i64 0] (w2.heap.size + 1) hsw3)
    | (refine wpList_store_all rfl 44 _ _ rfl w2.heap.size h0.cells rfl rfl 44 _ (hbw3.alloc _) (size6 _ HOK.out) (H6.cells_same _ _ HOK.out H6.zero_ok) (H6.one _) ?_; intro w4 hbw4 hgw4 hsw4; have be4 := hbe.grown hgw4 (by simp); have ce := be4.cell 0; have fe := be4.frozen 0; have hB4 : Below w2.heap.size w2 w4 := bgrown (hBw3.alloc hBw3.size _) hgw4 (by simp; omega) (Nat.le_refl _)))
  have hb5 := hbw4.far (p := ⟨w2.heap.size + 1, 0, none⟩) (by simp) (.int .i64 er)
  have he5 := be4.set 0 (.int .i64 er)
  have hB5 := hB4.setCell (p := ⟨w2.heap.size + 1, 0, none⟩) (by simp) (.int .i64 er)
  replace hk1 := hk1.on hB5
  replace hkb := hkb.on hB5
  replace hB1 := bthen hB1 hB5
  have hs5 : (w4.setCell ⟨w2.heap.size + 1, 0, none⟩ (.int .i64 er)).heap.size = w2.heap.size + 1 + 1 := by simp [World.setCell, hsw4, hsw3]
  generalize w4.setCell ⟨w2.heap.size + 1, 0, none⟩ (.int .i64 er) = w5 at hb5 he5 hk1 hB1 hs5 hkb ⊢
  clear hbw3 hBw3 hbe hbw4 hgw4 be4 ce fe hB4 hB5 hsw4
  have hle := alloc_below w5 (.cells #[.func (.func 34) #[] #[.pointer (some ⟨w2.heap.size + 1, 0, none⟩)], .func (.func 35) #[] #[.pointer (some ⟨w2.heap.size, 0, none⟩)], .func (.func 37) #[] #[.pointer (some ⟨w.heap.size + 1, 0, none⟩), .pointer (some ⟨w2.heap.size, 0, none⟩)], .func (.func 39) #[] #[.pointer (some ⟨w.heap.size, 0, none⟩)]] 23)
  have hr6 := row_vals (e := 23) w5 #[.func (.func 34) #[] #[.pointer (some ⟨w2.heap.size + 1, 0, none⟩)], .func (.func 35) #[] #[.pointer (some ⟨w2.heap.size, 0, none⟩)], .func (.func 37) #[] #[.pointer (some ⟨w.heap.size + 1, 0, none⟩), .pointer (some ⟨w2.heap.size, 0, none⟩)], .func (.func 39) #[] #[.pointer (some ⟨w.heap.size, 0, none⟩)]] 4 _ rfl hs5
  have hb6 := hb5.on hle
  have he6 := he5.on hle
  have hk6 := hk1.on hle
  have hkb6 := hkb.on hle
  rw [hs1] at hkb6
  have hB6 := bthen hB1 hle
  generalize w5.alloc (.cells #[.func (.func 34) #[] #[.pointer (some ⟨w2.heap.size + 1, 0, none⟩)], .func (.func 35) #[] #[.pointer (some ⟨w2.heap.size, 0, none⟩)], .func (.func 37) #[] #[.pointer (some ⟨w.heap.size + 1, 0, none⟩), .pointer (some ⟨w2.heap.size, 0, none⟩)], .func (.func 39) #[] #[.pointer (some ⟨w.heap.size, 0, none⟩)]] 23) = w6 at *
  refine (all_any _ 4 4 [.func (.func 34) #[] #[.pointer (some ⟨w2.heap.size + 1, 0, none⟩)], .func (.func 35) #[] #[.pointer (some ⟨w2.heap.size, 0, none⟩)], .func (.func 37) #[] #[.pointer (some ⟨w.heap.size + 1, 0, none⟩), .pointer (some ⟨w2.heap.size, 0, none⟩)], .func (.func 39) #[] #[.pointer (some ⟨w.heap.size, 0, none⟩)]] [er == 0, pl6 h0.src, big || !mu6 h0.dst, !is6F l] w6 ⟨hr6, rfl, ?_⟩ (by omega)).mono ?_
  · intro k v b hv hr
    rcases k with _|_|_|_|k
    · simp only [List.getElem?_cons_zero, List.getElem?_cons_succ, Option.some.injEq, Nat.zero_add] at hv hr
      subst hv
      subst hr
      exact ⟨_, _, rfl, fun W => by kernel_rfl, fun W hB => six1_any _ _ W (he6.on hB)⟩
    · simp only [List.getElem?_cons_zero, List.getElem?_cons_succ, Option.some.injEq, Nat.zero_add] at hv hr
      subst hv
      subst hr
      exact ⟨_, _, rfl, fun W => by kernel_rfl, fun W hB => six2_any _ h0 HOK.out W (hb6.on hB)⟩
    · simp only [List.getElem?_cons_zero, List.getElem?_cons_succ, Option.some.injEq, Nat.zero_add] at hv hr
      subst hv
      subst hr
      exact ⟨_, _, rfl, fun W => by kernel_rfl, fun W hB => six3_any _ _ big h0 HOK.out W (hkb6.on hB) (hb6.on hB)⟩
    · simp only [List.getElem?_cons_zero, List.getElem?_cons_succ, Option.some.injEq, Nat.zero_add] at hv hr
      subst hv
      subst hr
      exact ⟨_, _, rfl, fun W => by kernel_rfl, fun W hB => six4_any _ A n c l W (hk6.on hB) ((HR.out.below (bthen hB6 hB)).more (bthen hB6 hB).size) hc hcm hn⟩
    · simp at hv
  rintro e w7 ⟨rfl, hb7⟩
  generalize hr : ([er == 0, pl6 h0.src, big || !mu6 h0.dst, !is6F l] : List Bool).all id = r
  have hd2 := HD.out.trans (show _ = r by rw [← hr]; simp)
  go_wp2
  go_ret
  exact ⟨by rw [hd2]; rfl, bthen hB6 hb7⟩
end Go.Proofs.Ytimkgkokidhhpaa

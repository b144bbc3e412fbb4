/- What the program's and the reference's Body, Ttl and Put of IPv6 compute. No condition but sizes. -/
import Derived.Test.YtimkgkokidhhpaaRip6
import Derived.Test.YtimkgkokidhhpaaConcat
namespace Go.Proofs.Ytimkgkokidhhpaa
open Go.RowKit
set_option linter.unusedVariables false
set_option maxRecDepth 20000
set_option linter.unusedSimpArgs false

/-- what stands behind the header -/
def body6 (l : List UInt8) : List UInt8 := if (par6 l).2 = 0 then (l.drop 40).take (par6 l).1.len.toNat else []
theorem par6_fit (l : List UInt8) (h6 : H6) (hp : par6 l = (h6, 0)) : 0 ≤ h6.len ∧ 40 + h6.len ≤ l.length ∧ 40 ≤ l.length := by
  unfold par6 at hp
  split at hp
  · injection hp with _ h; cases h
  split at hp
  · injection hp with _ h; cases h
  split at hp
  · injection hp with _ h; cases h
  rename_i h1 h2 h3
  injection hp with h _
  subst h
  simp only
  omega

set_option maxHeartbeats 1000000 in
theorem body6_any (A : Option Addr) (n c : Nat) (l : List UInt8) (w : World) (h : Row w w.heap.size 1 A n (bv l)) (hc : n ≤ c) (hcm : c ≤ maxLen) (hn : n ≤ 1099511627776) :
    Calls Try.prog 68 #[.slice A n c] w fun e w' => ∃ r : Bs, e = .returned r.v ∧ r.l = body6 l ∧ r.ok w' ∧ Below w.heap.size w w' := by
  have hll : l.length = n := by have := h.1; rw [bv_length] at this; omega
  have P := parse6_any A n c l w h hc hcm hn
  have hok := par6_ok l
  unfold body6
  cases hp : par6 l with
  | mk h6 er =>
  rw [hp] at P hok
  simp only at P hok ⊢
  have HP := Lib.hid P
  have HOK := Lib.hid hok
  have HPP := Lib.hid hp
  have HH := Lib.hid h
  have HLL := Lib.hid hll
  clear P hok hp h hll
  by_cases he : er = 0
  · subst he
    obtain ⟨f0, f1, f2⟩ := par6_fit l h6 HPP.out
    rw [HLL.out] at f1 f2
    go_enter Try.func68, Try.ntmps68
    go_wp2_with fail
    refine HP.out.mono ?_
    rintro e w1 ⟨rfl, hb1⟩
    go_wp2_with (first
      | (refine wpList_alloc_blk rfl 44 rfl H6.zero.cells zero6 ?_; intro w2 hb2 hB2 hs2)
      | (refine wpList_store_all rfl 44 _ _ rfl w1.heap.size h6.cells rfl rfl 44 _ hb2 (size6 _ HOK.out) (H6.cells_same _ _ HOK.out H6.zero_ok) (H6.one _) ?_; intro w3 hb3 hg3 hs3; have hB3 : Below w1.heap.size w1 w3 := bgrown hB2 hg3 (by omega) (by omega); have hlen3 : w3.cell? ⟨w1.heap.size, 2, none⟩ = some (.int .i64 h6.len) := hb3.cell 2))
    have hB4 := bthen hb1 hB3
    refine (cut_yes A n c l 40 h6.len w3 ((HH.out.below hB4).more hB4.size) hc hcm hn (by omega) f0 (by omega)).mono ?_
    rintro e w4 ⟨A', c', rfl, hown, hb4⟩
    have HO := Lib.hid hown
    clear hown hlen3
    go_wp2_with fail
    go_ret
    exact ⟨⟨A', h6.len.toNat, c', _⟩, rfl, rfl, HO.out.ok, bthen hB4 hb4⟩
  · have hne : (er != 0) = true := by simpa using he
    rw [if_neg he]
    clear he
    go_enter Try.func68, Try.ntmps68
    go_wp2_with fail
    refine HP.out.mono ?_
    rintro e w1 ⟨rfl, hb1⟩
    go_wp2_with (first
      | (refine wpList_alloc_blk rfl 44 rfl H6.zero.cells zero6 ?_; intro w2 hb2 hB2 hs2)
      | (refine wpList_store_all rfl 44 _ _ rfl w1.heap.size h6.cells rfl rfl 44 _ hb2 (size6 _ HOK.out) (H6.cells_same _ _ HOK.out H6.zero_ok) (H6.one _) ?_; intro w3 hb3 hg3 hs3; have hB3 : Below w1.heap.size w1 w3 := bgrown hB2 hg3 (by omega) (by omega)))
    go_ret
    exact ⟨⟨none, 0, 0, []⟩, rfl, rfl, ok_nil _, bthen hb1 hB3⟩

set_option maxHeartbeats 1000000 in
theorem rbody6_any (l : List UInt8) (w : World) (hn : l.length ≤ 1099511627776) :
    Calls Try.prog 69 #[str l] w fun e w' => e = .returned (str (body6 l)) ∧ Below w.heap.size w w' := by
  have P := rparse6_any l w hn
  have hok := par6_ok l
  unfold body6
  cases hp : par6 l with
  | mk h6 er =>
  rw [hp] at P hok
  simp only at P hok ⊢
  have HP := Lib.hid P
  have HOK := Lib.hid hok
  have HPP := Lib.hid hp
  clear P hok hp
  by_cases he : er = 0
  · subst he
    obtain ⟨f0, f1, f2⟩ := par6_fit l h6 HPP.out
    have hx : Value.string ((ByteArray.mk l.toArray).extract 40 (40 + h6.len).toNat) = str ((l.drop 40).take h6.len.toNat) := by
      rw [str_ex]
      unfold str
      congr 3
      rw [List.drop_take]
      congr 1
      omega
    have HX := Lib.hid hx
    have g1 : (40 : Int) ≤ 40 + h6.len := by omega
    have g2 : (40 : Int) + h6.len ≤ 9223372036854775807 := by omega
    clear hx
    go_enter Try.func69, Try.ntmps69
    go_wp2_with fail
    refine HP.out.mono ?_
    rintro e w1 ⟨rfl, hb1⟩
    go_wp2_with (first
      | (refine wpList_alloc_blk rfl 44 rfl H6.zero.cells zero6 ?_; intro w2 hb2 hB2 hs2)
      | (refine wpList_store_all rfl 44 _ _ rfl w1.heap.size h6.cells rfl rfl 44 _ hb2 (size6 _ HOK.out) (H6.cells_same _ _ HOK.out H6.zero_ok) (H6.one _) ?_; intro w3 hb3 hg3 hs3; have hB3 : Below w1.heap.size w1 w3 := bgrown hB2 hg3 (by omega) (by omega); have hlen3 : w3.cell? ⟨w1.heap.size, 2, none⟩ = some (.int .i64 h6.len) := hb3.cell 2))
    go_ret
    exact ⟨by rw [← HX.out]; rfl, bthen hb1 hB3⟩
  · have hne : (er != 0) = true := by simpa using he
    rw [if_neg he]
    clear he
    go_enter Try.func69, Try.ntmps69
    go_wp2_with fail
    refine HP.out.mono ?_
    rintro e w1 ⟨rfl, hb1⟩
    go_wp2_with (first
      | (refine wpList_alloc_blk rfl 44 rfl H6.zero.cells zero6 ?_; intro w2 hb2 hB2 hs2)
      | (refine wpList_store_all rfl 44 _ _ rfl w1.heap.size h6.cells rfl rfl 44 _ hb2 (size6 _ HOK.out) (H6.cells_same _ _ HOK.out H6.zero_ok) (H6.one _) ?_; intro w3 hb3 hg3 hs3; have hB3 : Below w1.heap.size w1 w3 := bgrown hB2 hg3 (by omega) (by omega)))
    go_ret
    exact ⟨rfl, bthen hb1 hB3⟩

/-- a packet with another time to live -/
def ttl6 (l : List UInt8) (t : Int) : List UInt8 := if (par6 l).2 = 0 then l.take 7 ++ UInt8.ofNat t.toNat :: l.drop 8 else []
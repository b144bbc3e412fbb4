/- What the reference's Address and Text of sixteen bytes compute. No condition but sizes. -/
import Derived.Test.YtimkgkokidhhpaaIp6
import Derived.Test.YtimkgkokidhhpaaRel
namespace Go.Proofs.Ytimkgkokidhhpaa
open Go.RowKit
set_option linter.unusedVariables false
set_option maxRecDepth 20000
set_option linter.unusedSimpArgs false

theorem zero24 (w : World) : (zeroValue 33).run Try.prog w = .ok (.agg (bv z16).toArray) w := by kernel_rfl
theorem fill_step (l : List UInt8) (k : Nat) (u : UInt8) (hu : l[k]? = some u) (hk : k < 16) : (bv (l.take k ++ z16.drop k)).set k (.int .u8 (u.toNat : Int)) = bv (l.take (k + 1) ++ z16.drop (k + 1)) := by
  have hkl : k < l.length := (List.getElem?_eq_some_iff.1 hu).1
  obtain ⟨z, hz⟩ := get_ex z16 (k := k) hk
  have hd : z16.drop k = z :: z16.drop (k + 1) := by
    obtain ⟨h1, rfl⟩ := List.getElem?_eq_some_iff.1 hz
    exact List.drop_eq_getElem_cons h1
  rw [hd, take_snoc l k u hu]
  simp only [bv, List.map_append, List.map_cons, List.map_nil, List.append_assoc, List.cons_append, List.nil_append]
  exact set_mid _ _ _ _ _ (by simp; omega)

set_option maxHeartbeats 2000000 in
theorem address_any (l : List UInt8) (w : World) (hl : 16 ≤ l.length) (hm : l.length ≤ 1099511627776) :
    Calls Try.prog 62 #[str l] w fun e w' => e = .returned (.agg (bv (l.take 16)).toArray) ∧ Below w.heap.size w w' := by
  go_enter Try.func62, Try.ntmps62
  go_wp2_with (first
    | (refine wpList_alloc_blk rfl 33 rfl (bv z16) zero24 ?_; intro w2 hb2 hB2 hs2; have hb12 := hb1.on hB2; have hB12 := bthen hB1 hB2; rw [hs1] at hb2 hs2; rw [hs1]; clear hb1 hB1 hB2 hs1)
    | (refine wpList_alloc_blk rfl 33 rfl (bv z16) zero24 ?_; intro w1 hb1 hB1 hs1))
  go_loopw [4] (fun i wr => ∃ k : Nat, k ≤ 16 ∧ i = .int .i64 k ∧ Blk wr (w.heap.size + 1) 33 (bv (l.take k ++ z16.drop k)) ∧ Blk wr w.heap.size 33 (bv z16) ∧ Below w.heap.size w wr) (fun i _ => 16 - (intOf i).toNat)
  case atStart => exact ⟨0, by omega, rfl, by simpa using hb2, hb12, hB12⟩
  case round =>
    obtain ⟨k, hk, rfl, hb, hb0, hB⟩ := hrel
    have HB := Lib.hid hb
    have HB0 := Lib.hid hb0
    clear hb hb0 hb2 hb12 hB12
    by_cases hlt : k < 16
    · obtain ⟨u, hu⟩ := get_ex l (k := k) (by omega)
      have hg := ba_get l k u hu
      have HG := Lib.hid hg
      have hF := Lib.hid (fill_step l k u hu hlt)
      have hfr := HB.out.frozen k
      have hkl : k < l.length := by omega
      have hc : (wr.cell? ⟨w.heap.size + 1, k, none⟩).isSome = true := by
        rw [HB.out.cell, List.getElem?_eq_getElem (by simp [bv_length, z16]; omega)]
        rfl
      obtain ⟨y, hy⟩ := Option.isSome_iff_exists.1 hc
      clear hg hu hc
      go_wp2
      rw [HG.out]
      go_roundw
      case rel =>
        refine ⟨k + 1, by omega, by simp, ?_, HB0.out.far (by simp) _, hB.setCell (by simp) _⟩
        rw [← hF.out]
        exact HB.out.set k _
      case measure => simp [intOf]; omega
    · obtain rfl : k = 16 := by omega
      have hb3 := HB.out
      rw [show z16.drop 16 = [] from rfl, List.append_nil] at hb3
      have hl16 : (l.take 16).length = 16 := by rw [List.length_take]; omega
      have HL := Lib.hid hl16
      clear hl16
      go_wp2_with (first
        | (refine wpList_load_blk rfl 33 _ rfl (w.heap.size + 1) rfl 33 _ _ hb3 Try.underlying33 rfl (size24 _ HL.out) ?_)
        | (refine wpList_store_all rfl 33 _ _ rfl w.heap.size _ rfl rfl 33 _ HB0.out (size24 _ HL.out) (by rw [bv_length, bv_length, HL.out]; rfl) (bv_one _) ?_; intro w5 hb5 hg5 hs5))
      refine bodyPost_ret (results_cell1 rfl _ _ w.heap.size _ _ _ rfl hb5 Try.underlying33 rfl (size24 _ HL.out)) rfl ?_
      exact ⟨rfl, bgrown hB hg5 hB.size (by omega)⟩

set_option maxHeartbeats 2000000 in
theorem text_any (l : List UInt8) (w : World) (hl : l.length = 16) :
    Calls Try.prog 51 #[.agg (bv l).toArray] w fun e w' => e = .returned (str l) ∧ Below w.heap.size w w' := by
  go_enter Try.func51, Try.ntmps51
  go_wp2_with (refine wpList_box_blk rfl 33 _ rfl (bv l) rfl ?_; intro w1 hb1 hB1 hs1)
  go_loopw [3, 4] (fun t i wr => ∃ k : Nat, k ≤ 16 ∧ i = .int .i64 k ∧ t = str (l.take k) ∧ Blk wr w.heap.size 33 (bv l) ∧ Below w.heap.size w wr) (fun _ i _ => 16 - (intOf i).toNat)
  case atStart => exact ⟨0, by omega, rfl, rfl, hb1, hB1⟩
  case round =>
    obtain ⟨k, hk, rfl, rfl, hb, hB⟩ := hrel
    have HB := Lib.hid hb
    clear hb hb1 hB1
    by_cases hlt : k < 16
    · obtain ⟨u, hu⟩ := get_ex l (k := k) (by omega)
      have hcu : wr.cell? ⟨w.heap.size, k, none⟩ = some (.int .u8 (u.toNat : Int)) := by rw [HB.out.cell]; exact bv_get l k u hu
      have HS := Lib.hid (take_snoc l k u hu)
      have hub := byte_le u
      have H5 := Lib.hid (fun W : World => row_lit (e := 5) W #[.int .u8 (u.toNat : Int)] [u] 1 (by simp [bv]) rfl)
      clear hu
      go_wp2_with (refine wpList_str rfl _ 22 9 5 rfl Try.underlying22 Try.underlying5 Try.underlying9 _ _ _ _ [u] rfl (H5.out _) ?_)
      go_roundw
      case rel =>
        refine ⟨k + 1, by omega, by simp, ?_, HB.out.alloc _, hB.alloc hB.size _⟩
        rw [HS.out]
        exact str_cat _ _
      case measure => simp [intOf]; omega
    · obtain rfl : k = 16 := by omega
      have ht : l.take 16 = l := List.take_of_length_le (by omega)
      rw [ht]
      clear ht
      go_wp2
      go_ret
      exact ⟨rfl, hB⟩
end Go.Proofs.Ytimkgkokidhhpaa

/- The walk of layer 25 (permit): awake. No condition. -/
import Derived.Test.YtimkgkokidhhpaaPerm5
import Derived.Test.YtimkgkokidhhpaaPlain25
import Derived.Test.YtimkgkokidhhpaaIp4e
import Derived.Test.YtimkgkokidhhpaaIp6d
namespace Go.Proofs.Ytimkgkokidhhpaa
open Go.RowKit
set_option linter.unusedVariables false
set_option maxRecDepth 20000
set_option linter.unusedSimpArgs false

def h25a : H4 := ⟨0, 0, 0, false, false, 0, 1, 17, [10, 0, 0, 1], [10, 0, 0, 2], []⟩
def h25b : H4 := ⟨0, 0, 0, false, false, 0, 1, 1, [10, 0, 0, 1], [10, 0, 0, 2], []⟩
def h25c : H6 := ⟨0, 0, 0, 17, 1, [32, 1, 0, 0, 0, 0, 0, 0, 0, 0, 0, 0, 0, 0, 0, 0], [255, 2, 0, 0, 0, 0, 0, 0, 0, 0, 0, 0, 0, 0, 0, 0]⟩
def abc : List UInt8 := [97, 98, 99]
theorem h25a_fit : h25a.fit := ⟨⟨rfl, rfl⟩, by simp [h25a], by simp [h25a], by simp [h25a], by simp [h25a], by simp [h25a], by simp [h25a], by simp [h25a]⟩
theorem h25b_fit : h25b.fit := ⟨⟨rfl, rfl⟩, by simp [h25b], by simp [h25b], by simp [h25b], by simp [h25b], by simp [h25b], by simp [h25b], by simp [h25b]⟩
theorem h25c_fit : h25c.fit := ⟨⟨rfl, rfl⟩, by simp [h25c], by simp [h25c], by simp [h25c], by simp [h25c], by simp [h25c]⟩
theorem h25a_bad : ¬ h25a.bad := by simp [H4.bad, h25a]
theorem h25b_bad : ¬ h25b.bad := by simp [H4.bad, h25b]
theorem run_build25a (x6 x7 : Int) (a b c d e f g h : UInt8) (w : World) :
    (Instr.build 42 #[(6, .int .u8 x6), (7, .int .u8 x7), (8, .agg (bv [a, b, c, d]).toArray), (9, .agg (bv [e, f, g, h]).toArray)]).run Try.prog w = .ok (.agg (H4.mk 0 0 0 false false 0 x6 x7 [a, b, c, d] [e, f, g, h] []).cells.toArray) w := by kernel_rfl
theorem exec_build25 {w : World} {o : Oper} {q : Act} (x6 x7 x8 x9 : Operand) (ho : o.op = .build 42 #[(6, x6), (7, x7), (8, x8), (9, x9)]) (y6 y7 : Int) (a b c d e f g h : UInt8)
    (h6 : q.eval x6 = .int .u8 y6) (h7 : q.eval x7 = .int .u8 y7) (h8 : q.eval x8 = .agg (bv [a, b, c, d]).toArray) (h9 : q.eval x9 = .agg (bv [e, f, g, h]).toArray) :
    (execOp q.eval o).run Try.prog w = .ok (.value (.agg (H4.mk 0 0 0 false false 0 y6 y7 [a, b, c, d] [e, f, g, h] []).cells.toArray)) w := by
  unfold execOp
  simp only [ho, List.map_toArray, List.map_cons, List.map_nil, h6, h7, h8, h9, Sem.run_bind, run_build25a, Result.andThen_ok]
  rfl
def two16 (a b : UInt8) : List UInt8 := [a, b, 0, 0, 0, 0, 0, 0, 0, 0, 0, 0, 0, 0, 0, 0]
theorem run_buildT16 (a b : UInt8) (w : World) : (Instr.build 33 #[(0, .int .u8 (a.toNat : Int)), (1, .int .u8 (b.toNat : Int))]).run Try.prog w = .ok (.agg (bv (two16 a b)).toArray) w := by kernel_rfl
theorem exec_buildT16 {w : World} {o : Oper} {x : Act} (x0 x1 : Operand) (ho : o.op = .build 33 #[(0, x0), (1, x1)]) (a b : UInt8) (h0 : x.eval x0 = .int .u8 (a.toNat : Int)) (h1 : x.eval x1 = .int .u8 (b.toNat : Int)) :
    (execOp x.eval o).run Try.prog w = .ok (.value (.agg (bv (two16 a b)).toArray)) w := by
  unfold execOp
  simp only [ho, List.map_toArray, List.map_cons, List.map_nil, h0, h1, Sem.run_bind, run_buildT16, Result.andThen_ok]
  rfl
theorem run_build25c (w : World) :
    (Instr.build 44 #[(4, .int .u8 1), (3, .int .u8 17), (5, .agg (bv (two16 32 1)).toArray), (6, .agg (bv (two16 255 2)).toArray)]).run Try.prog w = .ok (.agg h25c.cells.toArray) w := by kernel_rfl
theorem exec_build25c {w : World} {o : Oper} {q : Act} (x4 x3 x5 x6 : Operand) (ho : o.op = .build 44 #[(4, x4), (3, x3), (5, x5), (6, x6)])
    (h4 : q.eval x4 = .int .u8 1) (h3 : q.eval x3 = .int .u8 17) (h5 : q.eval x5 = .agg (bv (two16 32 1)).toArray) (h6 : q.eval x6 = .agg (bv (two16 255 2)).toArray) :
    (execOp q.eval o).run Try.prog w = .ok (.value (.agg h25c.cells.toArray)) w := by
  unfold execOp
  simp only [ho, List.map_toArray, List.map_cons, List.map_nil, h4, h3, h5, h6, Sem.run_bind, run_build25c, Result.andThen_ok]
  rfl

set_option maxHeartbeats 4000000 in
theorem awake_any (w : World) : Calls Try.prog 7 #[] w fun e w' => e = .returned (.bool true) ∧ Below w.heap.size w w' := by
  have pa := put4_yes h25a h25a_bad abc (by simp [h25a, abc])
  have pb := put4_yes h25b h25b_bad [3] (by simp [h25b])
  have pc : put6 h25c abc = (pkt6 h25c abc, 0) := put6_yes h25c (by simp [h25c]) (by simp [h25c]) abc (by simp [abc])
  have na : (pkt4 h25a abc).length = 23 := by rw [pkt4_length _ h25a_fit.ok]; simp [h25a, abc]
  have nb : (pkt4 h25b [3]).length = 21 := by rw [pkt4_length _ h25b_fit.ok]; simp [h25b]
  have nc : (pkt6 h25c abc).length = 43 := by rw [pkt6_length _ h25c_fit.ok]; simp [abc]
  have fa : fourF (pkt4 h25a abc) = true := (fourF_pkt h25a h25a_fit h25a_bad abc (by simp [h25a, abc])).trans (by decide)
  have fb : fourF (pkt4 h25b [3]) = false := (fourF_pkt h25b h25b_fit h25b_bad [3] (by simp [h25b])).trans (by decide)
  have fc : ∀ b, sixF (pkt6 h25c abc) b = b := fun b => (sixF_pkt h25c h25c_fit (by simp [h25c]) (by simp [h25c]) abc (by simp [abc]) b).trans (by cases b <;> decide)
  have ea : eitherF (pkt4 h25a abc) = 4 := either_pkt4 h25a h25a_fit h25a_bad abc (by simp [h25a, abc])
  have ec : eitherF (pkt6 h25c abc) = 6 := either_pkt6 h25c h25c_fit (by simp [h25c]) (by simp [h25c]) abc (by simp [abc])
  have en : eitherF [] = 0 := by decide +kernel
  obtain ⟨LA, hLA⟩ : ∃ L, L = pkt4 h25a abc := ⟨_, rfl⟩
  obtain ⟨LB, hLB⟩ : ∃ L, L = pkt4 h25b [3] := ⟨_, rfl⟩
  obtain ⟨LC, hLC⟩ : ∃ L, L = pkt6 h25c abc := ⟨_, rfl⟩
  rw [← hLA] at pa na fa ea
  rw [← hLB] at pb nb fb
  rw [← hLC] at pc nc fc ec
  have PA := Lib.hid pa
  have PB := Lib.hid pb
  have PC := Lib.hid pc
  have NA := Lib.hid na
  have NB := Lib.hid nb
  have NC := Lib.hid nc
  have FA := Lib.hid fa
  have FB := Lib.hid fb
  have FC := Lib.hid fc
  have EA := Lib.hid ea
  have EC := Lib.hid ec
  have EN := Lib.hid en
  clear pa pb pc na nb nc fa fb fc ea ec en hLA hLB hLC
  go_enter Try.func7, Try.ntmps7
  go_wp2_with (first
    | (refine wpList_value (by rfl) (exec_buildA4 _ _ _ _ rfl 10 0 0 1 rfl rfl rfl rfl) ?_)
    | (refine wpList_value (by rfl) (exec_buildA4 _ _ _ _ rfl 10 0 0 2 rfl rfl rfl rfl) ?_)
    | (refine wpList_value (by rfl) (exec_build25 _ _ _ _ rfl 1 17 10 0 0 1 10 0 0 2 rfl rfl rfl rfl) ?_)
    | (refine wpList_value (by rfl) (exec_build25 _ _ _ _ rfl 1 1 10 0 0 1 10 0 0 2 rfl rfl rfl rfl) ?_)
    | (refine wpList_value (by rfl) (exec_buildT16 _ _ rfl 32 1 rfl rfl) ?_)
    | (refine wpList_value (by rfl) (exec_buildT16 _ _ rfl 255 2 rfl rfl) ?_)
    | (refine wpList_value (by rfl) (exec_build25c _ _ _ _ rfl rfl rfl rfl rfl) ?_))
  refine (rput4_any h25a h25a_fit abc w (by simp [abc])).mono ?_
  rintro e w1 ⟨rfl, hb⟩
  rw [show (put4 h25a abc).1 = LA by rw [PA.out], show (put4 h25a abc).2 = 0 by rw [PA.out]]
  have HW := Lib.hid (hb)
  clear hb
  go_wp2_with (first
    | (refine wpList_value (by rfl) (exec_buildA4 _ _ _ _ rfl 10 0 0 1 rfl rfl rfl rfl) ?_)
    | (refine wpList_value (by rfl) (exec_buildA4 _ _ _ _ rfl 10 0 0 2 rfl rfl rfl rfl) ?_)
    | (refine wpList_value (by rfl) (exec_build25 _ _ _ _ rfl 1 17 10 0 0 1 10 0 0 2 rfl rfl rfl rfl) ?_)
    | (refine wpList_value (by rfl) (exec_build25 _ _ _ _ rfl 1 1 10 0 0 1 10 0 0 2 rfl rfl rfl rfl) ?_)
    | (refine wpList_value (by rfl) (exec_buildT16 _ _ rfl 32 1 rfl rfl) ?_)
    | (refine wpList_value (by rfl) (exec_buildT16 _ _ rfl 255 2 rfl rfl) ?_)
    | (refine wpList_value (by rfl) (exec_build25c _ _ _ _ rfl rfl rfl rfl rfl) ?_))
  refine (rput4_any h25b h25b_fit [3] w1 (by simp)).mono ?_
  rintro e w2 ⟨rfl, hb⟩
  rw [show (put4 h25b [3]).1 = LB by rw [PB.out], show (put4 h25b [3]).2 = 0 by rw [PB.out]]
  replace HW := Lib.hid (bthen HW.out hb)
  clear hb
  go_wp2_with (first
    | (refine wpList_value (by rfl) (exec_buildA4 _ _ _ _ rfl 10 0 0 1 rfl rfl rfl rfl) ?_)
    | (refine wpList_value (by rfl) (exec_buildA4 _ _ _ _ rfl 10 0 0 2 rfl rfl rfl rfl) ?_)
    | (refine wpList_value (by rfl) (exec_build25 _ _ _ _ rfl 1 17 10 0 0 1 10 0 0 2 rfl rfl rfl rfl) ?_)
    | (refine wpList_value (by rfl) (exec_build25 _ _ _ _ rfl 1 1 10 0 0 1 10 0 0 2 rfl rfl rfl rfl) ?_)
    | (refine wpList_value (by rfl) (exec_buildT16 _ _ rfl 32 1 rfl rfl) ?_)
    | (refine wpList_value (by rfl) (exec_buildT16 _ _ rfl 255 2 rfl rfl) ?_)
    | (refine wpList_value (by rfl) (exec_build25c _ _ _ _ rfl rfl rfl rfl rfl) ?_))
  refine (rput6_any h25c h25c_fit abc w2 (by simp [abc])).mono ?_
  rintro e w3 ⟨rfl, hb⟩
  rw [show (put6 h25c abc).1 = LC by rw [PC.out], show (put6 h25c abc).2 = 0 by rw [PC.out]]
  replace HW := Lib.hid (bthen HW.out hb)
  clear hb
  go_wp2_with (first
    | (refine wpList_toBytes (by rfl) _ 9 22 5 rfl Try.underlying22 Try.underlying5 Try.underlying9 LA rfl ?_ (by rw [NA.out]; decide); intro A c w4 hr hb2 hc hm)
    | (refine wpList_value (by rfl) (exec_buildA4 _ _ _ _ rfl 10 0 0 1 rfl rfl rfl rfl) ?_)
    | (refine wpList_value (by rfl) (exec_buildA4 _ _ _ _ rfl 10 0 0 2 rfl rfl rfl rfl) ?_)
    | (refine wpList_value (by rfl) (exec_build25 _ _ _ _ rfl 1 17 10 0 0 1 10 0 0 2 rfl rfl rfl rfl) ?_)
    | (refine wpList_value (by rfl) (exec_build25 _ _ _ _ rfl 1 1 10 0 0 1 10 0 0 2 rfl rfl rfl rfl) ?_)
    | (refine wpList_value (by rfl) (exec_buildT16 _ _ rfl 32 1 rfl rfl) ?_)
    | (refine wpList_value (by rfl) (exec_buildT16 _ _ rfl 255 2 rfl rfl) ?_)
    | (refine wpList_value (by rfl) (exec_build25c _ _ _ _ rfl rfl rfl rfl rfl) ?_))
  rw [NA.out] at hr hc ⊢
  replace HW := Lib.hid (bthen HW.out hb2)
  clear hb2
  refine (permFour_any A 23 c LA w4 hr hc hm (by omega)).mono ?_
  rintro e w5 ⟨rfl, hb⟩
  rw [FA.out]
  replace HW := Lib.hid (bthen HW.out hb)
  clear hb hr hc hm
  go_wp2_with (first
    | (refine wpList_toBytes (by rfl) _ 9 22 5 rfl Try.underlying22 Try.underlying5 Try.underlying9 LB rfl ?_ (by rw [NB.out]; decide); intro A c w6 hr hb2 hc hm)
    | (refine wpList_value (by rfl) (exec_buildA4 _ _ _ _ rfl 10 0 0 1 rfl rfl rfl rfl) ?_)
    | (refine wpList_value (by rfl) (exec_buildA4 _ _ _ _ rfl 10 0 0 2 rfl rfl rfl rfl) ?_)
    | (refine wpList_value (by rfl) (exec_build25 _ _ _ _ rfl 1 17 10 0 0 1 10 0 0 2 rfl rfl rfl rfl) ?_)
    | (refine wpList_value (by rfl) (exec_build25 _ _ _ _ rfl 1 1 10 0 0 1 10 0 0 2 rfl rfl rfl rfl) ?_)
    | (refine wpList_value (by rfl) (exec_buildT16 _ _ rfl 32 1 rfl rfl) ?_)
    | (refine wpList_value (by rfl) (exec_buildT16 _ _ rfl 255 2 rfl rfl) ?_)
    | (refine wpList_value (by rfl) (exec_build25c _ _ _ _ rfl rfl rfl rfl rfl) ?_))
  rw [NB.out] at hr hc ⊢
  replace HW := Lib.hid (bthen HW.out hb2)
  clear hb2
  refine (permFour_any A 21 c LB w6 hr hc hm (by omega)).mono ?_
  rintro e w7 ⟨rfl, hb⟩
  rw [FB.out]
  replace HW := Lib.hid (bthen HW.out hb)
  clear hb hr hc hm
  go_wp2_with (first
    | (refine wpList_toBytes (by rfl) _ 9 22 5 rfl Try.underlying22 Try.underlying5 Try.underlying9 LC rfl ?_ (by rw [NC.out]; decide); intro A c w8 hr hb2 hc hm)
    | (refine wpList_value (by rfl) (exec_buildA4 _ _ _ _ rfl 10 0 0 1 rfl rfl rfl rfl) ?_)
    | (refine wpList_value (by rfl) (exec_buildA4 _ _ _ _ rfl 10 0 0 2 rfl rfl rfl rfl) ?_)
    | (refine wpList_value (by rfl) (exec_build25 _ _ _ _ rfl 1 17 10 0 0 1 10 0 0 2 rfl rfl rfl rfl) ?_)
    | (refine wpList_value (by rfl) (exec_build25 _ _ _ _ rfl 1 1 10 0 0 1 10 0 0 2 rfl rfl rfl rfl) ?_)
    | (refine wpList_value (by rfl) (exec_buildT16 _ _ rfl 32 1 rfl rfl) ?_)
    | (refine wpList_value (by rfl) (exec_buildT16 _ _ rfl 255 2 rfl rfl) ?_)
    | (refine wpList_value (by rfl) (exec_build25c _ _ _ _ rfl rfl rfl rfl rfl) ?_))
  rw [NC.out] at hr hc ⊢
  replace HW := Lib.hid (bthen HW.out hb2)
  clear hb2
  refine (permSix_any A 43 c LC false w8 hr hc hm (by omega)).mono ?_
  rintro e w9 ⟨rfl, hb⟩
  rw [FC.out]
  replace HW := Lib.hid (bthen HW.out hb)
  clear hb hr hc hm
  go_wp2_with (first
    | (refine wpList_toBytes (by rfl) _ 9 22 5 rfl Try.underlying22 Try.underlying5 Try.underlying9 LC rfl ?_ (by rw [NC.out]; decide); intro A c w10 hr hb2 hc hm)
    | (refine wpList_value (by rfl) (exec_buildA4 _ _ _ _ rfl 10 0 0 1 rfl rfl rfl rfl) ?_)
    | (refine wpList_value (by rfl) (exec_buildA4 _ _ _ _ rfl 10 0 0 2 rfl rfl rfl rfl) ?_)
    | (refine wpList_value (by rfl) (exec_build25 _ _ _ _ rfl 1 17 10 0 0 1 10 0 0 2 rfl rfl rfl rfl) ?_)
    | (refine wpList_value (by rfl) (exec_build25 _ _ _ _ rfl 1 1 10 0 0 1 10 0 0 2 rfl rfl rfl rfl) ?_)
    | (refine wpList_value (by rfl) (exec_buildT16 _ _ rfl 32 1 rfl rfl) ?_)
    | (refine wpList_value (by rfl) (exec_buildT16 _ _ rfl 255 2 rfl rfl) ?_)
    | (refine wpList_value (by rfl) (exec_build25c _ _ _ _ rfl rfl rfl rfl rfl) ?_))
  rw [NC.out] at hr hc ⊢
  replace HW := Lib.hid (bthen HW.out hb2)
  clear hb2
  refine (permSix_any A 43 c LC true w10 hr hc hm (by omega)).mono ?_
  rintro e w11 ⟨rfl, hb⟩
  rw [FC.out]
  replace HW := Lib.hid (bthen HW.out hb)
  clear hb hr hc hm
  go_wp2_with (first
    | (refine wpList_toBytes (by rfl) _ 9 22 5 rfl Try.underlying22 Try.underlying5 Try.underlying9 LA rfl ?_ (by rw [NA.out]; decide); intro A c w12 hr hb2 hc hm)
    | (refine wpList_value (by rfl) (exec_buildA4 _ _ _ _ rfl 10 0 0 1 rfl rfl rfl rfl) ?_)
    | (refine wpList_value (by rfl) (exec_buildA4 _ _ _ _ rfl 10 0 0 2 rfl rfl rfl rfl) ?_)
    | (refine wpList_value (by rfl) (exec_build25 _ _ _ _ rfl 1 17 10 0 0 1 10 0 0 2 rfl rfl rfl rfl) ?_)
    | (refine wpList_value (by rfl) (exec_build25 _ _ _ _ rfl 1 1 10 0 0 1 10 0 0 2 rfl rfl rfl rfl) ?_)
    | (refine wpList_value (by rfl) (exec_buildT16 _ _ rfl 32 1 rfl rfl) ?_)
    | (refine wpList_value (by rfl) (exec_buildT16 _ _ rfl 255 2 rfl rfl) ?_)
    | (refine wpList_value (by rfl) (exec_build25c _ _ _ _ rfl rfl rfl rfl rfl) ?_))
  rw [NA.out] at hr hc ⊢
  replace HW := Lib.hid (bthen HW.out hb2)
  clear hb2
  refine (either_any A 23 c LA w12 hr hc hm (by omega)).mono ?_
  rintro e w13 ⟨rfl, hb⟩
  rw [EA.out]
  replace HW := Lib.hid (bthen HW.out hb)
  clear hb hr hc hm
  go_wp2_with (first
    | (refine wpList_toBytes (by rfl) _ 9 22 5 rfl Try.underlying22 Try.underlying5 Try.underlying9 LC rfl ?_ (by rw [NC.out]; decide); intro A c w14 hr hb2 hc hm)
    | (refine wpList_value (by rfl) (exec_buildA4 _ _ _ _ rfl 10 0 0 1 rfl rfl rfl rfl) ?_)
    | (refine wpList_value (by rfl) (exec_buildA4 _ _ _ _ rfl 10 0 0 2 rfl rfl rfl rfl) ?_)
    | (refine wpList_value (by rfl) (exec_build25 _ _ _ _ rfl 1 17 10 0 0 1 10 0 0 2 rfl rfl rfl rfl) ?_)
    | (refine wpList_value (by rfl) (exec_build25 _ _ _ _ rfl 1 1 10 0 0 1 10 0 0 2 rfl rfl rfl rfl) ?_)
    | (refine wpList_value (by rfl) (exec_buildT16 _ _ rfl 32 1 rfl rfl) ?_)
    | (refine wpList_value (by rfl) (exec_buildT16 _ _ rfl 255 2 rfl rfl) ?_)
    | (refine wpList_value (by rfl) (exec_build25c _ _ _ _ rfl rfl rfl rfl rfl) ?_))
  rw [NC.out] at hr hc ⊢
  replace HW := Lib.hid (bthen HW.out hb2)
  clear hb2
  refine (either_any A 43 c LC w14 hr hc hm (by omega)).mono ?_
  rintro e w15 ⟨rfl, hb⟩
  rw [EC.out]
  replace HW := Lib.hid (bthen HW.out hb)
  clear hb hr hc hm
  go_wp2_with fail
  refine (either_any none 0 0 [] w15 (Row.nil _ _ _ _) (by omega) (by simp [maxLen]) (by omega)).mono ?_
  rintro e w16 ⟨rfl, hb⟩
  rw [EN.out]
  replace HW := Lib.hid (bthen HW.out hb)
  clear hb
  go_wp2_with fail
  go_ret
  exact ⟨rfl, HW.out⟩
end Go.Proofs.Ytimkgkokidhhpaa

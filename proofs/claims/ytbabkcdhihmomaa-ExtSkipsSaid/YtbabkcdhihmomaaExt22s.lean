/- What the reference's Stack of extensions (layer 22) computes. No condition but sizes. -/
import Derived.Test.YtbabkcdhihmomaaExt22
namespace Go.Proofs.Ytbabkcdhihmomaa
open Go.RowKit
set_option linter.unusedVariables false
set_option maxRecDepth 20000
set_option linter.unusedSimpArgs false

theorem packL_four {x : Ent} (h : x.good) : (packL x).length = 4 := by unfold packL; rw [if_pos h, toBe_length]
theorem packL_le (x : Ent) : (packL x).length ≤ 4 := by
  unfold packL
  split
  · rw [toBe_length]; omega
  · simp
theorem packs_len (l : List Ent) (h : ∀ x ∈ l, x.good) : (l.flatMap packL).length = 4 * l.length := by
  induction l with
  | nil => rfl
  | cons x l ih =>
    rw [List.flatMap_cons, List.length_append, packL_four (h x (by simp)), ih fun y hy => h y (by simp [hy]), List.length_cons]
    omega
theorem packs_snoc (l : List Ent) (k : Nat) (x : Ent) (h : l[k]? = some x) : (l.take (k + 1)).flatMap packL = (l.take k).flatMap packL ++ packL x := by
  rw [take_snoc l k x h]; simp

set_option maxHeartbeats 4000000 in
theorem rstack22_any (A : Option Addr) (n c : Nat) (l : List Ent) (w : World) (hr : Row w w.heap.size 4 A n (evs l)) (hf : ∀ x ∈ l, x.fit) (hn : n ≤ 1099511627776) :
    Calls Try.prog 13 #[.slice A n c] w fun e w' => e = .returned (.tuple #[str (stack22 l).1, .int .i64 (stack22 l).2]) ∧ Below w.heap.size w w' := by
  have hlen := ent_len hr
  by_cases h16 : 16 < n
  · have h16' : (16 : Int) < (n : Int) := by omega
    have hx : stack22 l = ([], 51) := by unfold stack22; rw [if_pos (by omega)]
    rw [hx]
    clear hr hf
    go_enter Try.func13, Try.ntmps13
    go_wp2_with fail
    go_ret2
    exact ⟨rfl, Below.refl _ _⟩
  · have h16' : ¬ (16 : Int) < (n : Int) := by omega
    have HR := Lib.hid hr
    have HF := Lib.hid hf
    clear hr hf
    go_enter Try.func13, Try.ntmps13
    go_wp2_with fail
    go_loopw [4, 5] (fun s i wr => ∃ k : Nat, k ≤ n ∧ i = .int .i64 k ∧ s = str ((l.take k).flatMap packL) ∧ (∀ x ∈ l.take k, x.good) ∧ Below w.heap.size w wr) (fun _ i _ => n - (intOf i).toNat)
    case atStart => exact ⟨0, by omega, rfl, rfl, by simp, Below.refl _ _⟩
    case round =>
      obtain ⟨k, hk, rfl, rfl, hg, hB⟩ := hrel
      have HG := Lib.hid hg
      have HB := Lib.hid hB
      have hsl : ((l.take k).flatMap packL).length = 4 * k := by rw [packs_len _ hg, List.length_take]; omega
      by_cases hlt : k < n
      · obtain ⟨x, hx⟩ := get_ex l (k := k) (by omega)
        have hxf := HF.out x (List.mem_of_getElem? hx)
        have HXF := Lib.hid hxf
        obtain ⟨b, o, rfl, hb, a0, a1, a2, a3⟩ := ent_row (HR.out.below hB) k x hx
        have HS := Lib.hid (packs_snoc l k x hx)
        have HX := Lib.hid hx
        have HTK := Lib.hid (take_snoc l k x hx)
        obtain ⟨S, hS⟩ : ∃ S, (l.take k).flatMap packL = S := ⟨_, rfl⟩
        rw [hS] at HS hsl ⊢
        have hpl := packL_le x
        have PK := rpack_any x hxf wr
        by_cases hgd : x.good
        · have he : packE x = 0 := by unfold packE; rw [if_pos hgd]
          rw [he] at PK
          obtain ⟨p, hp⟩ : ∃ p, packL x = p := ⟨_, rfl⟩
          rw [hp] at PK HS hpl
          have HP := Lib.hid PK
          clear hB hg hx hxf hS PK he hp
          go_wp2_with fail
          refine HP.out.mono ?_
          rintro e w2 ⟨rfl, hb2⟩
          clear a0 a1 a2 a3
          go_wp2_with (refine wpList_value (by rfl) (exec_add _ _ _ _ rfl Try.underlying9 S p rfl rfl (by omega)) ?_)
          go_roundw
          case rel =>
            refine ⟨k + 1, by omega, by simp, by rw [HS.out], ?_, bthen HB.out hb2⟩
            intro y hy
            rw [HTK.out] at hy
            rcases List.mem_append.1 hy with h | h
            · exact HG.out y h
            · simp only [List.mem_singleton] at h
              subst h
              exact hgd
          case measure => simp [intOf]; omega
        · have he : packE x = 1 := by unfold packE; rw [if_neg hgd]
          have hl : packL x = [] := by unfold packL; rw [if_neg hgd]
          rw [he, hl] at PK
          have HP := Lib.hid PK
          have hno : stack22 l = ([], 1) := by
            unfold stack22
            rw [if_neg (by omega), if_neg]
            intro hall
            have := List.all_eq_true.1 hall x (List.mem_of_getElem? hx)
            exact hgd (by simpa using this)
          have HNO := Lib.hid hno
          clear hB hg hx hxf hS PK he hl hno
          go_wp2_with fail
          refine HP.out.mono ?_
          rintro e w2 ⟨rfl, hb2⟩
          clear a0 a1 a2 a3
          go_wp2_with fail
          go_ret2
          exact ⟨by rw [HNO.out]; rfl, bthen HB.out hb2⟩
      · obtain rfl : k = n := by omega
        have hta : l.take k = l := List.take_of_length_le (by omega)
        rw [hta] at HG hsl ⊢
        have hx : stack22 l = (hd22 (obB ⟨1, 1, l.flatMap packL⟩), 0) := by
          unfold stack22
          rw [if_neg (by omega), if_pos]
          exact List.all_eq_true.2 fun y hy => by simpa using HG.out y hy
        obtain ⟨S, hS⟩ : ∃ S, l.flatMap packL = S := ⟨_, rfl⟩
        rw [hS] at hsl hx ⊢
        have HSX := Lib.hid hx
        have hext : ext22 [⟨1, 1, S⟩] = (hd22 (obB ⟨1, 1, S⟩), 0) := by
          unfold ext22
          rw [if_pos (by simp [Ob.good, hsl]; omega)]
          simp [obsB]
        have HX := Lib.hid hext
        clear hta hx hS hext hg hB HG
        go_wp2_with fail
        refine (rext_put _ 1 1 [⟨1, 1, S⟩] _ (by rw [World.size_alloc]; exact Row.new (n := 1) (sz := 3) wr #[.int .u8 1, .int .u8 1, str S] rfl) (by intro y hy; simp at hy; subst hy; exact ⟨by simp, by simp, by simp only; omega⟩) (by omega)).mono ?_
        rintro e w3 ⟨rfl, hb3⟩
        rw [HX.out]
        go_wp2_with fail
        go_ret2
        exact ⟨by rw [HSX.out]; rfl, bthen HB.out (ballocd hb3)⟩
end Go.Proofs.Ytbabkcdhihmomaa

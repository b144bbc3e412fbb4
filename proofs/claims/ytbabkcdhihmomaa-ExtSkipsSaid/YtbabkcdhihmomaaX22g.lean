/- What the reference's Get (layer 22) computes. No condition but sizes. -/
import Derived.Test.YtbabkcdhihmomaaX22f
import Derived.Test.YtbabkcdhihmomaaX22d
namespace Go.Proofs.Ytbabkcdhihmomaa
open Go.RowKit
set_option linter.unusedVariables false
set_option maxRecDepth 20000
set_option linter.unusedSimpArgs false

theorem infoOb : (Try.prog.info? 66).map (fun i => (i.zero, i.size, i.bytes)) = some (some (.agg #[.int .u8 0, .int .u8 0, .string ⟨#[]⟩]), 3, 24) := by kernel_rfl
section
variable {P : Program} {w : World} {o : Oper} {a : Act} {Q : Exit → Act → World → Prop} {K : Act → World → Prop}
theorem wp_append_Own (s x : Operand) (t : TypeId) (ho : o.op = .call { callee := .builtin .append, args := #[s, x], argTypes := #[t, t] })
    (base : Nat) (e : TypeId) (z : Value) (sz bytes : Nat) (ht : P.underlying t = some (.slice e)) (hinfo : (P.info? e).map (fun i => (i.zero, i.size, i.bytes)) = some (some z, sz, bytes))
    (hzs : z.cells.size = sz) (hsz : 0 < sz)
    (A : Option Addr) (n c : Nat) (xs : List Value) (hs : a.eval s = .slice A n c) (hown : Own w base e sz A n c xs)
    (B : Nat) (X : Option Addr) (m cx : Nat) (news : List Value) (hx : a.eval x = .slice X m cx) (hr : Row w B sz X m news) (h1 : ∀ u ∈ news, u.oneCell' = true)
    (h63 : n + m ≤ maxLen) (hbytes : (n + m) * bytes ≤ 140737488355328) (hbase : base ≤ w.heap.size)
    (h : ∀ A' c' w', Own w' base e sz A' (n + m) c' (xs ++ news) → w.grownBy w' (blk A c) → K (a.put o.dst (.slice A' (n + m) c')) w') : o.wp P a w K Q := by
  obtain ⟨A', c', w', hrun, h2, h3, h4⟩ := run_append_Own (P := P) w base t o.type e z sz bytes ht hinfo hzs hsz A n c xs hown B X m cx news hr h1 h63 hbytes hbase
  refine wp_value ?_ (h A' c' w' h2 h3)
  unfold execOp
  simp [ho, resolve, invoke, builtin, hs, hx, hrun, Result.andThen]
end
def strN (v : Value) : Nat := match v with | .string b => b.size | _ => 0
theorem goG_zero (acc : List Ob) (zs : List UInt8) (h : zs.length = 0) (f : Nat) : goG f acc zs = (acc, 0) := by
  cases f with
  | zero => rfl
  | succ f => unfold goG; rw [if_pos h]
set_option maxHeartbeats 4000000 in
theorem rget22_any (zs : List UInt8) (w : World) (hmax : zs.length ≤ 1000000000) :
    Calls Try.prog 15 #[str zs] w fun e w' => ∃ (A' : Option Addr) (c' : Nat), e = .returned (.tuple #[.slice A' (getG zs).1.length c', .int .i64 (getG zs).2]) ∧ Own w' w.heap.size 66 3 A' (getG zs).1.length c' (obs (getG zs).1) ∧ Below w.heap.size w w' := by
  by_cases h4 : zs.length < 4
  · have hG : Hid (getG zs = ([], 10)) := Lib.hid (by unfold getG; rw [if_pos h4])
    have h4i : (zs.length : Int) < 4 := by omega
    clear h4
    go_enter Try.func15, Try.ntmps15
    go_wp2_with fail
    go_ret2
    exact ⟨none, 0, by rw [hG.out]; rfl, by rw [hG.out]; exact Own.nil _ _ _ _ _, Below.refl _ _⟩
  · have h4i : ¬ (zs.length : Int) < 4 := by omega
    obtain ⟨y, hy, hyb⟩ := u8_bd0 zs 0
    have hyb2 : (y : Int) ≤ 255 := by omega
    have hx0 : ∀ h', (((ByteArray.mk zs.toArray)[0]'h').toNat : Int) = (y : Int) := fun h' => by rw [ba_get zs 0 (zs.getD 0 0) (by rw [List.getD_eq_getElem?_getD, List.getElem?_eq_getElem (by omega)]; rfl), hy]
    by_cases hv : y / 16 = 2
    · have hvi : ((y : Int) / 16 != 2) = false := by simp; omega
      by_cases hs : rawN zs = 65535
      · have hsi : (((rawN zs : Nat) : Int) != 65535) = false := by simp; omega
        have hG : Hid (getG zs = goG (zs.length - 4) [] (zs.drop 4)) := Lib.hid (by unfold getG; rw [if_neg h4, if_neg (by rw [hy]; exact fun h => h hv), if_neg (fun h => h hs)])
        have hd4 : Value.string ((ByteArray.mk zs.toArray).extract 4 zs.length) = str (zs.drop 4) := str_drop zs 4
        have h4j : (4 : Int) ≤ (zs.length : Int) := by omega
        have hzl : 4 ≤ zs.length := by omega
        clear h4 hv hs hy
        go_enter Try.func15, Try.ntmps15
        go_wp2_with (go_at_call 29; refine (rraw_any zs _ (by omega)).mono ?_; rintro e w' ⟨rfl, rfl⟩)
        clear hd4 hx0
        go_loopw [4, 5] (fun v s wr => ∃ (acc : List Ob) (f : Nat) (rs : List UInt8) (q : Nat) (A2 : Option Addr) (c2 : Nat), v = .slice A2 q c2 ∧ s = str rs ∧ goG (zs.length - 4) [] (zs.drop 4) = goG f acc rs ∧ acc.length = q ∧ rs.length ≤ f ∧ 4 * q + rs.length ≤ zs.length ∧ Own wr w.heap.size 66 3 A2 q c2 (obs acc) ∧ Below w.heap.size w wr) (fun _ s _ => strN s)
        case atStart => exact ⟨[], zs.length - 4, zs.drop 4, 0, none, 0, rfl, rfl, rfl, rfl, by simp, by simp, Own.nil _ _ _ _ _, Below.refl _ _⟩
        case round =>
          obtain ⟨acc, f, rs, q, A2, c2, rfl, rfl, hgo, hq, hrf, hle, hob, hbe⟩ := hrel
          have HGO := Lib.hid hgo
          have HQ := Lib.hid hq
          have HOB := Lib.hid hob
          have HBE := Lib.hid hbe
          clear hgo hq hob hbe
          by_cases hz0 : rs.length = 0
          · obtain rfl := List.eq_nil_of_length_eq_zero hz0
            have HGG := Lib.hid (goG_zero acc [] rfl f)
            clear hz0 hrf hle
            go_wp2_with fail
            go_ret2
            exact ⟨A2, c2, by rw [hG.out, HGO.out, HGG.out]; simp only [HQ.out]; rfl, by rw [hG.out, HGO.out, HGG.out]; simp only [HQ.out]; exact HOB.out, HBE.out⟩
          · have hne : (!rs.isEmpty) = true := by cases rs with | nil => exact absurd rfl hz0 | cons => rfl
            obtain ⟨f, rfl⟩ : ∃ q, f = q + 1 := ⟨f - 1, by omega⟩
            have hstep : goG (f + 1) acc rs = if rs.length < 4 then ([], 10) else if badG rs then ([], 13) else goG f (acc ++ [obG rs]) (rs.drop (be (rs.take 2))) := by
              show (if rs.length = 0 then _ else _) = _
              rw [if_neg hz0]
            by_cases h4 : rs.length < 4
            · rw [if_pos h4] at hstep
              have HST := Lib.hid hstep
              have h4i : (rs.length : Int) < 4 := by omega
              clear hstep h4
              go_wp2_with fail
              go_ret2
              exact ⟨none, 0, by rw [hG.out, HGO.out, HST.out]; rfl, by rw [hG.out, HGO.out, HST.out]; exact Own.nil _ _ _ _ _, HBE.out⟩
            · rw [if_neg h4] at hstep
              have h4i : ¬ (rs.length : Int) < 4 := by omega
              obtain ⟨k, hk⟩ : ∃ k, be (rs.take 2) = k := ⟨_, rfl⟩
              have hk16 : k < 65536 := by rw [← hk]; exact be_bd (rs.take 2) 2 (by rw [List.length_take]; omega)
              have GET := Lib.hid (fun W => (show Calls Try.prog 30 #[str rs, .int .i64 0, .int .i64 2] W fun e w' => e = .returned (.tuple #[.int .u64 (k : Nat), .bool true]) ∧ W = w' by
                have := rget_yes rs 0 2 W (by omega) (by omega) (by omega) (by omega) (by omega)
                rw [show be ((rs.drop (0 : Int).toNat).take (2 : Int).toNat) = k from hk] at this
                exact this))
              have hbad : badG rs = (decide (k < 4) || decide (rs.length < k) || decide (k % 4 ≠ 0)) := by unfold badG; rw [hk]
              rw [hk] at hstep
              have HK := Lib.hid hk
              have hsz : rs.length ≤ 1000000000 := by omega
              clear hk
              by_cases hgood : 4 ≤ k ∧ k ≤ rs.length ∧ k % 4 = 0
              · obtain ⟨g1, g2, g3⟩ := hgood
                have i1 : ¬ (k : Int) < 4 := by omega
                have i2 : ¬ (rs.length : Int) < (k : Int) := by omega
                have i3 : ¬ (0 : Int) < (k : Int) % 4 := by omega
                have i4 : decide ((0 : Int) < (k : Int) % 4) = false := by simp; omega
                rw [if_neg (by rw [hbad]; simp; omega)] at hstep
                clear hbad
                obtain ⟨y2, hy2, hyb2'⟩ := u8_bd0 rs 2
                obtain ⟨y3, hy3, hyb3⟩ := u8_bd0 rs 3
                have hx2 : ∀ h', (((ByteArray.mk rs.toArray)[2]'h').toNat : Int) = (y2 : Int) := fun h' => by rw [ba_get rs 2 (rs.getD 2 0) (by rw [List.getD_eq_getElem?_getD, List.getElem?_eq_getElem (by omega)]; rfl), hy2]
                have hx3 : ∀ h', (((ByteArray.mk rs.toArray)[3]'h').toNat : Int) = (y3 : Int) := fun h' => by rw [ba_get rs 3 (rs.getD 3 0) (by rw [List.getD_eq_getElem?_getD, List.getElem?_eq_getElem (by omega)]; rfl), hy3]
                have HOG : Hid (obG rs = ⟨(y2 : Int), (y3 : Int), (rs.take k).drop 4⟩) := Lib.hid (by unfold obG; rw [HK.out, hy2, hy3])
                obtain ⟨body, hbody⟩ : ∃ q, (rs.take k).drop 4 = q := ⟨_, rfl⟩
                rw [hbody] at HOG
                have HBS : Hid (Value.string ((ByteArray.mk rs.toArray).extract 4 k) = str body) := Lib.hid (by rw [str_ex, hbody])
                have HBL := Lib.hid (show body.length ≤ 65536 by rw [← hbody]; simp; omega)
                have HSD := Lib.hid (str_drop rs k)
                have HST := Lib.hid hstep
                have j1 : (4 : Int) ≤ (k : Int) := by omega
                have j2 : (k : Int) ≤ (rs.length : Int) := by omega
                have j3 : (2 : Int) < (rs.length : Int) := by omega
                have j4 : (3 : Int) < (rs.length : Int) := by omega
                have HMS : Hid (strN (str (rs.drop k)) < strN (str rs)) := Lib.hid (by simp [strN, ByteArray.size]; omega)
                clear hstep hy2 hy3 hbody
                go_wp2_with (go_at_call 30; refine (GET.out _).mono ?_; rintro e w' ⟨rfl, rfl⟩)
                refine (wpIn_wide (n := 3)).1 ?_
                refine wpIn_region_last2 10 (fun A B => A.grownBy B none) (fun A => grown_refl A _) (fun A B C h k => grown_trans h k) (relAt (List.cons (fun v _ => v = .slice A2 q c2) (List.cons (fun v _ => v = str rs) (List.cons (fun v _ => v = .int .u8 (y2 : Int)) (List.cons (fun v _ => v = str rs) (List.cons (fun v _ => v = .int .u8 (y3 : Int)) (List.cons (fun v _ => v = str rs) (List.cons (fun v _ => v = .int .i64 (k : Int)) (List.cons (fun v _ => v = str body) (List.cons (fun v _ => v = .agg (Ob.cells ⟨(y2 : Int), (y3 : Int), body⟩).toArray) (List.cons (fun v W => ∃ g, v = .slice (some ⟨g, 0, none⟩) 1 1 ∧ Row W W.heap.size 3 (some ⟨g, 0, none⟩) 1 (Ob.cells ⟨(y2 : Int), (y3 : Int), body⟩)) ([])))))))))))) (MonoL.at_ (.cons (mono_val _) (.cons (mono_val _) (.cons (mono_val _) (.cons (mono_val _) (.cons (mono_val _) (.cons (mono_val _) (.cons (mono_val _) (.cons (mono_val _) (.cons (mono_val _) (.cons (fun _ _ _ ⟨g, h1, h2⟩ k => ⟨g, h1, (h2.below (grow_below k)).more k.size⟩) .nil))))))))))) (by kernel_rfl) (by kernel_rfl) rfl (by kernel_rfl) _ rfl rfl _ rfl rfl ⟨?_, ?_, ?_, ?_, ?_, ?_, ?_, ?_, ?_, ?_, trivial⟩ ?_
                · intro a vs W hX hR he hf K hK
                  rw [if_pos (wanted_none rfl)]
                  have e4 : a.eval (.tmp 4) = .slice A2 q c2 := hf 4 (by kernel_rfl)
                  refine wp_value (v := .slice A2 q c2) ?_ (hK _ _ rfl (grown_refl W _))
                  simp only [execOp, e4]
                  try go_simp
                  try (first | rfl | omega | (simp only [IntKind.wrap_i64, IntKind.wrap_u8, IntKind.wrap_u64, IntKind.wrap_u16, IntKind.wrap_u32]; omega) | (rw [Int.tmod_eq_emod_of_nonneg (by omega)]) | (rw [Int.tmod_eq_emod_of_nonneg (by omega)]; omega))
                · intro a vs W hX hR he hf K hK
                  rw [if_pos (wanted_none rfl)]
                  have e5 : a.eval (.tmp 5) = str rs := hf 5 (by kernel_rfl)
                  refine wp_value (v := str rs) ?_ (hK _ _ rfl (grown_refl W _))
                  simp only [execOp, e5]
                  try go_simp
                  try (first | rfl | omega | (simp only [IntKind.wrap_i64, IntKind.wrap_u8, IntKind.wrap_u64, IntKind.wrap_u16, IntKind.wrap_u32]; omega) | (rw [Int.tmod_eq_emod_of_nonneg (by omega)]) | (rw [Int.tmod_eq_emod_of_nonneg (by omega)]; omega))
                · intro a vs W hX hR he hf K hK
                  rw [if_pos (wanted_none rfl)]
                  have e47 : a.eval (.tmp 47) = str rs := (he 1 47 (by kernel_rfl) rfl).trans (hR 1 (by kernel_rfl))
                  refine wp_value (v := .int .u8 (y2 : Int)) ?_ (hK _ _ rfl (grown_refl W _))
                  simp only [execOp, e47]
                  go_simp
                · intro a vs W hX hR he hf K hK
                  rw [if_pos (wanted_none rfl)]
                  have e5 : a.eval (.tmp 5) = str rs := hf 5 (by kernel_rfl)
                  refine wp_value (v := str rs) ?_ (hK _ _ rfl (grown_refl W _))
                  simp only [execOp, e5]
                  try go_simp
                  try (first | rfl | omega | (simp only [IntKind.wrap_i64, IntKind.wrap_u8, IntKind.wrap_u64, IntKind.wrap_u16, IntKind.wrap_u32]; omega) | (rw [Int.tmod_eq_emod_of_nonneg (by omega)]) | (rw [Int.tmod_eq_emod_of_nonneg (by omega)]; omega))
                · intro a vs W hX hR he hf K hK
                  rw [if_pos (wanted_none rfl)]
                  have e49 : a.eval (.tmp 49) = str rs := (he 3 49 (by kernel_rfl) rfl).trans (hR 3 (by kernel_rfl))
                  refine wp_value (v := .int .u8 (y3 : Int)) ?_ (hK _ _ rfl (grown_refl W _))
                  simp only [execOp, e49]
                  go_simp
                · intro a vs W hX hR he hf K hK
                  rw [if_pos (wanted_none rfl)]
                  have e5 : a.eval (.tmp 5) = str rs := hf 5 (by kernel_rfl)
                  refine wp_value (v := str rs) ?_ (hK _ _ rfl (grown_refl W _))
                  simp only [execOp, e5]
                  try go_simp
                  try (first | rfl | omega | (simp only [IntKind.wrap_i64, IntKind.wrap_u8, IntKind.wrap_u64, IntKind.wrap_u16, IntKind.wrap_u32]; omega) | (rw [Int.tmod_eq_emod_of_nonneg (by omega)]) | (rw [Int.tmod_eq_emod_of_nonneg (by omega)]; omega))
                · intro a vs W hX hR he hf K hK
                  rw [if_pos (wanted_none rfl)]
                  have e8 : a.eval (.tmp 8) = .int .i64 (k : Int) := hf 8 (by kernel_rfl)
                  refine wp_value (v := .int .i64 (k : Int)) ?_ (hK _ _ rfl (grown_refl W _))
                  simp only [execOp, e8]
                  try go_simp
                  try (first | rfl | omega | (simp only [IntKind.wrap_i64, IntKind.wrap_u8, IntKind.wrap_u64, IntKind.wrap_u16, IntKind.wrap_u32]; omega) | (rw [Int.tmod_eq_emod_of_nonneg (by omega)]) | (rw [Int.tmod_eq_emod_of_nonneg (by omega)]; omega))
                · intro a vs W hX hR he hf K hK
                  rw [if_pos (wanted_none rfl)]
                  have e51 : a.eval (.tmp 51) = str rs := (he 5 51 (by kernel_rfl) rfl).trans (hR 5 (by kernel_rfl))
                  have e52 : a.eval (.tmp 52) = .int .i64 (k : Int) := (he 6 52 (by kernel_rfl) rfl).trans (hR 6 (by kernel_rfl))
                  have f51 := e51
                  simp only [Act.eval, Array.getD_eq_getD_getElem?] at f51
                  have f52 := e52
                  simp only [Act.eval, Array.getD_eq_getD_getElem?] at f52
                  refine wp_value (v := str body) ?_ (hK _ _ rfl (grown_refl W _))
                  simp only [execOp, e51, e52]
                  have hq := HBS.out
                  go_simp
                · intro a vs W hX hR he hf K hK
                  rw [if_pos (wanted_none rfl)]
                  have e48 : a.eval (.tmp 48) = .int .u8 (y2 : Int) := (he 2 48 (by kernel_rfl) rfl).trans (hR 2 (by kernel_rfl))
                  have e50 : a.eval (.tmp 50) = .int .u8 (y3 : Int) := (he 4 50 (by kernel_rfl) rfl).trans (hR 4 (by kernel_rfl))
                  have e53 : a.eval (.tmp 53) = str body := (he 7 53 (by kernel_rfl) rfl).trans (hR 7 (by kernel_rfl))
                  have f48 := e48
                  simp only [Act.eval, Array.getD_eq_getD_getElem?] at f48
                  have f50 := e50
                  simp only [Act.eval, Array.getD_eq_getD_getElem?] at f50
                  have f53 := e53
                  simp only [Act.eval, Array.getD_eq_getD_getElem?] at f53
                  refine wp_value (v := .agg (Ob.cells ⟨(y2 : Int), (y3 : Int), body⟩).toArray) ?_ (hK _ _ rfl (grown_refl W _))
                  simp only [execOp, f48, f50, f53, e48, e50, e53, Ob.cells]
                  go_simp
                · intro a vs W hX hR he hf K hK
                  rw [if_pos (wanted_none rfl)]
                  have e54 : a.eval (.tmp 54) = .agg (Ob.cells ⟨(y2 : Int), (y3 : Int), body⟩).toArray := (he 8 54 (by kernel_rfl) rfl).trans (hR 8 (by kernel_rfl))
                  have f54 := e54
                  simp only [Act.eval, Array.getD_eq_getD_getElem?] at f54
                  simp only [Ob.cells] at e54 f54
                  refine wp_value (v := .slice (some ⟨W.heap.size, 0, none⟩) 1 1) (w' := W.alloc (.cells (Ob.cells ⟨(y2 : Int), (y3 : Int), body⟩).toArray 66)) ?_ (hK _ _ ⟨_, rfl, by rw [World.size_alloc]; exact Row.new (n := 1) (sz := 3) W _ rfl⟩ (World.grownBy_alloc _ _ _))
                  simp only [execOp, e54, f54, Ob.cells]
                  go_simp
                · intro vs W2 hX2 hR
                  have q0 := hR 0 (by decide)
                  have q1 := hR 1 (by decide)
                  have q2 := hR 2 (by decide)
                  have q3 := hR 3 (by decide)
                  have q4 := hR 4 (by decide)
                  have q5 := hR 5 (by decide)
                  have q6 := hR 6 (by decide)
                  have q7 := hR 7 (by decide)
                  have q8 := hR 8 (by decide)
                  have q9 := hR 9 (by decide)
                  change vs 0 = .slice A2 q c2 at q0
                  change vs 1 = str rs at q1
                  change vs 2 = .int .u8 (y2 : Int) at q2
                  change vs 3 = str rs at q3
                  change vs 4 = .int .u8 (y3 : Int) at q4
                  change vs 5 = str rs at q5
                  change vs 6 = .int .i64 (k : Int) at q6
                  change vs 7 = str body at q7
                  change vs 8 = .agg (Ob.cells ⟨(y2 : Int), (y3 : Int), body⟩).toArray at q8
                  change (fun v W => ∃ g, v = .slice (some ⟨g, 0, none⟩) 1 1 ∧ Row W W.heap.size 3 (some ⟨g, 0, none⟩) 1 (Ob.cells ⟨(y2 : Int), (y3 : Int), body⟩)) (vs 9) W2 at q9
                  simp only [putAll, Act.put, List.setIfInBounds_toArray, List.set_cons_zero, List.set_cons_succ, List.take_succ_cons, List.take_zero, q0, q1, q2, q3, q4, q5, q6, q7, q8]
                  clear q0 q1 q2 q3 q4 q5 q6 q7 q8
                  clear hR
                  obtain ⟨g2, hv2, hrow2⟩ := q9
                  rw [hv2]
                  have hbW := bthen (below_drew _) (grow_below hX2)
                  refine wpIn_of_wp (wp_append_Own _ _ 32 rfl w.heap.size 66 _ 3 24 Try.underlying32 infoOb rfl (by decide) A2 q c2 _ rfl (HOB.out.below hbW) _ _ 1 1 _ rfl hrow2 (by intro u hu; simp [Ob.cells] at hu; rcases hu with rfl | rfl | rfl <;> rfl) (by simp only [maxLen]; omega) (by omega) (by have h1 := hbW.size; have h2 := HBE.out.size; omega) ?_)
                  intro A5 c5 w5 hown5 hg5
                  refine wpIn_of_wp (wp_value (v := .slice A5 (q + 1) c5) (w' := w5) (by simp only [execOp]; go_simp) ?_)
                  try simp only [List.getElem_toArray, List.getElem_cons_succ, List.getElem_cons_zero, Act.put, List.setIfInBounds_toArray, List.set_cons_zero, List.set_cons_succ]
                  go_wp2_with fail
                  go_roundw
                  case rel =>
                    refine ⟨acc ++ [⟨(y2 : Int), (y3 : Int), body⟩], f, rs.drop k, q + 1, A5, c5, rfl, HSD.out, ?_, by simp [HQ.out], by rw [List.length_drop]; omega, by rw [List.length_drop]; omega, ?_, ?_⟩
                    · rw [HGO.out, HST.out, HOG.out]
                    · rw [show obs (acc ++ [⟨(y2 : Int), (y3 : Int), body⟩]) = obs acc ++ Ob.cells ⟨(y2 : Int), (y3 : Int), body⟩ by simp [obs]]
                      exact hown5
                    · exact bgrown' (HBE.out.trans (hbW.mono HBE.out.size)) hg5 (by have h1 := hbW.size; have h2 := HBE.out.size; omega) (fun g hg => (HOB.out.lt g hg).1)
                  case measure =>
                    rw [HSD.out]
                    exact HMS.out
              · have hbt : badG rs = true := by rw [hbad]; simp; omega
                rw [if_pos hbt] at hstep
                have HST := Lib.hid hstep
                clear hstep hbt hbad
                have hcase : k < 4 ∨ (4 ≤ k ∧ rs.length < k) ∨ (4 ≤ k ∧ k ≤ rs.length ∧ k % 4 ≠ 0) := by omega
                rcases hcase with h1 | ⟨h1, h2⟩ | ⟨h1, h2, h3⟩
                · have i1 : (k : Int) < 4 := by omega
                  go_wp2_with (go_at_call 30; refine (GET.out _).mono ?_; rintro e w' ⟨rfl, rfl⟩)
                  go_ret2
                  exact ⟨none, 0, by rw [hG.out, HGO.out, HST.out]; rfl, by rw [hG.out, HGO.out, HST.out]; exact Own.nil _ _ _ _ _, HBE.out⟩
                · have i1 : ¬ (k : Int) < 4 := by omega
                  have i2 : (rs.length : Int) < (k : Int) := by omega
                  go_wp2_with (go_at_call 30; refine (GET.out _).mono ?_; rintro e w' ⟨rfl, rfl⟩)
                  go_ret2
                  exact ⟨none, 0, by rw [hG.out, HGO.out, HST.out]; rfl, by rw [hG.out, HGO.out, HST.out]; exact Own.nil _ _ _ _ _, HBE.out⟩
                · have i1 : ¬ (k : Int) < 4 := by omega
                  have i2 : ¬ (rs.length : Int) < (k : Int) := by omega
                  have i3 : (0 : Int) < (k : Int) % 4 := by omega
                  go_wp2_with (go_at_call 30; refine (GET.out _).mono ?_; rintro e w' ⟨rfl, rfl⟩)
                  go_ret2
                  exact ⟨none, 0, by rw [hG.out, HGO.out, HST.out]; rfl, by rw [hG.out, HGO.out, HST.out]; exact Own.nil _ _ _ _ _, HBE.out⟩
      · have hsi : (((rawN zs : Nat) : Int) != 65535) = true := by simp; omega
        have hG : Hid (getG zs = ([], 14)) := Lib.hid (by unfold getG; rw [if_neg h4, if_neg (by rw [hy]; exact fun h => h hv), if_pos hs])
        clear h4 hv hs hy
        go_enter Try.func15, Try.ntmps15
        go_wp2_with (go_at_call 29; refine (rraw_any zs _ (by omega)).mono ?_; rintro e w' ⟨rfl, rfl⟩)
        go_ret2
        exact ⟨none, 0, by rw [hG.out]; rfl, by rw [hG.out]; exact Own.nil _ _ _ _ _, Below.refl _ _⟩
    · have hvi : ((y : Int) / 16 != 2) = true := by simp; omega
      have hG : Hid (getG zs = ([], 12)) := Lib.hid (by unfold getG; rw [if_neg h4, if_pos (by rw [hy]; exact hv)])
      clear h4 hv hy
      go_enter Try.func15, Try.ntmps15
      go_wp2_with fail
      go_ret2
      exact ⟨none, 0, by rw [hG.out]; rfl, by rw [hG.out]; exact Own.nil _ _ _ _ _, Below.refl _ _⟩
end Go.Proofs.Ytbabkcdhihmomaa

/- Texts of this claim put together, in build order: each one's own remark stands ahead of it. -/
import Derived.Test.YtbcjkjmjljfhpaaDoorG12
import Derived.Test.YtbcjkjmjljfhpaaDoorG15
import Derived.Test.YtbcjkjmjljfhpaaDoorG16
import Derived.Test.YtbcjkjmjljfhpaaDoorG03
import Derived.Test.YtbcjkjmjljfhpaaDoorG08
import Derived.Test.YtbcjkjmjljfhpaaDoorG09
import Derived.Test.YtbcjkjmjljfhpaaDoorG05
import Derived.Laws.BitsAllLaws
import Derived.Test.YtbcjkjmjljfhpaaDoorG07
import Derived.Test.YtbcjkjmjljfhpaaDoorG01
/- What the reference's Get (layer 22) computes. No condition but sizes. -/
namespace Go.Proofs.YtbcjkjmjljfhpaaDoor
open Go.RowKit
set_option linter.unusedVariables false
set_option maxRecDepth 20000
set_option linter.unusedSimpArgs false

theorem infoOb : (Tryd.prog.info? 93).map (fun i => (i.zero, i.size, i.bytes)) = some (some (.agg #[.int .u8 0, .int .u8 0, .string ⟨#[]⟩]), 3, 24) := by kernel_rfl
section
variable {P : Program} {w : World} {o : Oper} {a : Act} {Q : Exit → Act → World → Prop} {K : Act → World → Prop}
theorem wp_append_Own (s x : Operand) (t : TypeId) (ho : o.op = .call { callee := .builtin .append, args := #[s, x], argTypes := #[t, t] })
    (base : Nat) (e : TypeId) (z : Value) (sz bytes : Nat) (ht : P.underlying t = some (.slice e)) (hinfo : (P.info? e).map (fun i => (i.zero, i.size, i.bytes)) = some (some z, sz, bytes))
    (hzs : z.cells.size = sz) (hsz : 0 < sz)
    (A : Option Addr) (n c : Nat) (xs : List Value) (hs : a.eval s = .slice A n c) (hown : Own w base e sz A n c xs)
    (B : Nat) (X : Option Addr) (m cx : Nat) (news : List Value) (hx : a.eval x = .slice X m cx) (hr : Row w B sz X m news) (h1 : ∀ u ∈ news, u.oneCell' = true)
    (h63 : n + m ≤ maxLen) (hbytes : (n + m) * bytes ≤ 140737488355328) (hbase : base ≤ w.heap.size)
    (h : ∀ A' c' w', Own w' base e sz A' (n + m) c' (xs ++ news) → w.grownBy w' (blk A c) → K (a.put o.dst (.slice A' (n + m) c')) w') : o.wp P a w K Q := by
  obtain ⟨A', c', w', hrun, h2, h3, h4⟩ := run_append_Own (P := P) w base t o.type e z sz bytes ht hinfo hzs hsz A n c xs hown B X m cx news hr h1 h63 hbytes hbase
  refine wp_value ?_ (h A' c' w' h2 h3)
  unfold execOp
  simp [ho, resolve, invoke, builtin, hs, hx, hrun, Result.andThen]
end
def strN (v : Value) : Nat := match v with | .string b => b.size | _ => 0
theorem goG_zero (acc : List Ob) (zs : List UInt8) (h : zs.length = 0) (f : Nat) : goG f acc zs = (acc, 0) := by
  cases f with
  | zero => rfl
  | succ f => unfold goG; rw [if_pos h]
set_option maxHeartbeats 4000000 in
theorem rget22_any (zs : List UInt8) (w : World) (hmax : zs.length ≤ 1000000000) :
    Calls Tryd.prog 61 #[str zs] w fun e w' => ∃ (A' : Option Addr) (c' : Nat), e = .returned (.tuple #[.slice A' (getG zs).1.length c', .int .i64 (getG zs).2]) ∧ Own w' w.heap.size 93 3 A' (getG zs).1.length c' (obs (getG zs).1) ∧ Below w.heap.size w w' := by
  by_cases h4 : zs.length < 4
  · have hG : Hid (getG zs = ([], 10)) := Lib.hid (by unfold getG; rw [if_pos h4])
    have h4i : (zs.length : Int) < 4 := by omega
    clear h4
    go_enter Tryd.func61, Tryd.ntmps61
    go_wp2_with fail
    go_ret2
    exact ⟨none, 0, by rw [hG.out]; rfl, by rw [hG.out]; exact Own.nil _ _ _ _ _, Below.refl _ _⟩
  · have h4i : ¬ (zs.length : Int) < 4 := by omega
    obtain ⟨y, hy, hyb⟩ := u8_bd0 zs 0
    have hyb2 : (y : Int) ≤ 255 := by omega
    have hx0 : ∀ h', (((ByteArray.mk zs.toArray)[0]'h').toNat : Int) = (y : Int) := fun h' => by rw [ba_get zs 0 (zs.getD 0 0) (by rw [List.getD_eq_getElem?_getD, List.getElem?_eq_getElem (by omega)]; rfl), hy]
    by_cases hv : y / 16 = 2
    · have hvi : ((y : Int) / 16 != 2) = false := by simp; omega
      by_cases hs : rawN zs = 65535
      · have hsi : (((rawN zs : Nat) : Int) != 65535) = false := by simp; omega
        have hG : Hid (getG zs = goG (zs.length - 4) [] (zs.drop 4)) := Lib.hid (by unfold getG; rw [if_neg h4, if_neg (by rw [hy]; exact fun h => h hv), if_neg (fun h => h hs)])
        have hd4 : Value.string ((ByteArray.mk zs.toArray).extract 4 zs.length) = str (zs.drop 4) := str_drop zs 4
        have h4j : (4 : Int) ≤ (zs.length : Int) := by omega
        have hzl : 4 ≤ zs.length := by omega
        clear h4 hv hs hy
        go_enter Tryd.func61, Tryd.ntmps61
        go_wp2_with (go_at_call 35; refine (rraw_any zs _ (by omega)).mono ?_; rintro e w' ⟨rfl, rfl⟩)
        clear hd4 hx0
        go_loopw [4, 5] (fun v s wr => ∃ (acc : List Ob) (f : Nat) (rs : List UInt8) (q : Nat) (A2 : Option Addr) (c2 : Nat), v = .slice A2 q c2 ∧ s = str rs ∧ goG (zs.length - 4) [] (zs.drop 4) = goG f acc rs ∧ acc.length = q ∧ rs.length ≤ f ∧ 4 * q + rs.length ≤ zs.length ∧ Own wr w.heap.size 93 3 A2 q c2 (obs acc) ∧ Below w.heap.size w wr) (fun _ s _ => strN s)
        case atStart => exact ⟨[], zs.length - 4, zs.drop 4, 0, none, 0, rfl, rfl, rfl, rfl, by simp, by simp, Own.nil _ _ _ _ _, Below.refl _ _⟩
        case round =>
          obtain ⟨acc, f, rs, q, A2, c2, rfl, rfl, hgo, hq, hrf, hle, hob, hbe⟩ := hrel
          have HGO := Lib.hid hgo
          have HQ := Lib.hid hq
          have HOB := Lib.hid hob
          have HBE := Lib.hid hbe
          clear hgo hq hob hbe
          by_cases hz0 : rs.length = 0
          · obtain rfl := List.eq_nil_of_length_eq_zero hz0
            have HGG := Lib.hid (goG_zero acc [] rfl f)
            clear hz0 hrf hle
            go_wp2_with fail
            go_ret2
            exact ⟨A2, c2, by rw [hG.out, HGO.out, HGG.out]; simp only [HQ.out]; rfl, by rw [hG.out, HGO.out, HGG.out]; simp only [HQ.out]; exact HOB.out, HBE.out⟩
          · have hne : (!rs.isEmpty) = true := by cases rs with | nil => exact absurd rfl hz0 | cons => rfl
            obtain ⟨f, rfl⟩ : ∃ q, f = q + 1 := ⟨f - 1, by omega⟩
            have hstep : goG (f + 1) acc rs = if rs.length < 4 then ([], 10) else if badG rs then ([], 13) else goG f (acc ++ [obG rs]) (rs.drop (be (rs.take 2))) := by
              show (if rs.length = 0 then _ else _) = _
              rw [if_neg hz0]
            by_cases h4 : rs.length < 4
            · rw [if_pos h4] at hstep
              have HST := Lib.hid hstep
              have h4i : (rs.length : Int) < 4 := by omega
              clear hstep h4
              go_wp2_with fail
              go_ret2
              exact ⟨none, 0, by rw [hG.out, HGO.out, HST.out]; rfl, by rw [hG.out, HGO.out, HST.out]; exact Own.nil _ _ _ _ _, HBE.out⟩
            · rw [if_neg h4] at hstep
              have h4i : ¬ (rs.length : Int) < 4 := by omega
              obtain ⟨k, hk⟩ : ∃ k, be (rs.take 2) = k := ⟨_, rfl⟩
              have hk16 : k < 65536 := by rw [← hk]; exact be_bd (rs.take 2) 2 (by rw [List.length_take]; omega)
              have GET := Lib.hid (fun W => (show Calls Tryd.prog 37 #[str rs, .int .i64 0, .int .i64 2] W fun e w' => e = .returned (.tuple #[.int .u64 (k : Nat), .bool true]) ∧ W = w' by
                have := rget_yes rs 0 2 W (by omega) (by omega) (by omega) (by omega) (by omega)
                rw [show be ((rs.drop (0 : Int).toNat).take (2 : Int).toNat) = k from hk] at this
                exact this))
              have hbad : badG rs = (decide (k < 4) || decide (rs.length < k) || decide (k % 4 ≠ 0)) := by unfold badG; rw [hk]
              rw [hk] at hstep
              have HK := Lib.hid hk
              have hsz : rs.length ≤ 1000000000 := by omega
              clear hk
              by_cases hgood : 4 ≤ k ∧ k ≤ rs.length ∧ k % 4 = 0
              · obtain ⟨g1, g2, g3⟩ := hgood
                have i1 : ¬ (k : Int) < 4 := by omega
                have i2 : ¬ (rs.length : Int) < (k : Int) := by omega
                have i3 : ¬ (0 : Int) < (k : Int) % 4 := by omega
                have i4 : decide ((0 : Int) < (k : Int) % 4) = false := by simp; omega
                rw [if_neg (by rw [hbad]; simp; omega)] at hstep
                clear hbad
                obtain ⟨y2, hy2, hyb2'⟩ := u8_bd0 rs 2
                obtain ⟨y3, hy3, hyb3⟩ := u8_bd0 rs 3
                have hx2 : ∀ h', (((ByteArray.mk rs.toArray)[2]'h').toNat : Int) = (y2 : Int) := fun h' => by rw [ba_get rs 2 (rs.getD 2 0) (by rw [List.getD_eq_getElem?_getD, List.getElem?_eq_getElem (by omega)]; rfl), hy2]
                have hx3 : ∀ h', (((ByteArray.mk rs.toArray)[3]'h').toNat : Int) = (y3 : Int) := fun h' => by rw [ba_get rs 3 (rs.getD 3 0) (by rw [List.getD_eq_getElem?_getD, List.getElem?_eq_getElem (by omega)]; rfl), hy3]
                have HOG : Hid (obG rs = ⟨(y2 : Int), (y3 : Int), (rs.take k).drop 4⟩) := Lib.hid (by unfold obG; rw [HK.out, hy2, hy3])
                obtain ⟨body, hbody⟩ : ∃ q, (rs.take k).drop 4 = q := ⟨_, rfl⟩
                rw [hbody] at HOG
                have HBS : Hid (Value.string ((ByteArray.mk rs.toArray).extract 4 k) = str body) := Lib.hid (by rw [str_ex, hbody])
                have HBL := Lib.hid (show body.length ≤ 65536 by rw [← hbody]; simp; omega)
                have HSD := Lib.hid (str_drop rs k)
                have HST := Lib.hid hstep
                have j1 : (4 : Int) ≤ (k : Int) := by omega
                have j2 : (k : Int) ≤ (rs.length : Int) := by omega
                have j3 : (2 : Int) < (rs.length : Int) := by omega
                have j4 : (3 : Int) < (rs.length : Int) := by omega
                have HMS : Hid (strN (str (rs.drop k)) < strN (str rs)) := Lib.hid (by simp [strN, ByteArray.size]; omega)
                clear hstep hy2 hy3 hbody
                go_wp2_with (go_at_call 37; refine (GET.out _).mono ?_; rintro e w' ⟨rfl, rfl⟩)
                refine (wpIn_wide (n := 3)).1 ?_
                refine wpIn_region_last2 10 (fun A B => A.grownBy B none) (fun A => grown_refl A _) (fun A B C h k => grown_trans h k) (relAt (List.cons (fun v _ => v = .slice A2 q c2) (List.cons (fun v _ => v = str rs) (List.cons (fun v _ => v = .int .u8 (y2 : Int)) (List.cons (fun v _ => v = str rs) (List.cons (fun v _ => v = .int .u8 (y3 : Int)) (List.cons (fun v _ => v = str rs) (List.cons (fun v _ => v = .int .i64 (k : Int)) (List.cons (fun v _ => v = str body) (List.cons (fun v _ => v = .agg (Ob.cells ⟨(y2 : Int), (y3 : Int), body⟩).toArray) (List.cons (fun v W => ∃ g, v = .slice (some ⟨g, 0, none⟩) 1 1 ∧ Row W W.heap.size 3 (some ⟨g, 0, none⟩) 1 (Ob.cells ⟨(y2 : Int), (y3 : Int), body⟩)) ([])))))))))))) (MonoL.at_ (.cons (mono_val _) (.cons (mono_val _) (.cons (mono_val _) (.cons (mono_val _) (.cons (mono_val _) (.cons (mono_val _) (.cons (mono_val _) (.cons (mono_val _) (.cons (mono_val _) (.cons (fun _ _ _ ⟨g, h1, h2⟩ k => ⟨g, h1, (h2.below (grow_below k)).more k.size⟩) .nil))))))))))) (by kernel_rfl) (by kernel_rfl) rfl (by kernel_rfl) _ rfl rfl _ rfl rfl ⟨?_, ?_, ?_, ?_, ?_, ?_, ?_, ?_, ?_, ?_, trivial⟩ ?_
                · intro a vs W hX hR he hf K hK
                  rw [if_pos (wanted_none rfl)]
                  have e4 : a.eval (.tmp 4) = .slice A2 q c2 := hf 4 (by kernel_rfl)
                  refine wp_value (v := .slice A2 q c2) ?_ (hK _ _ rfl (grown_refl W _))
                  simp only [execOp, e4]
                  try go_simp
                  try (first | rfl | omega | (simp only [IntKind.wrap_i64, IntKind.wrap_u8, IntKind.wrap_u64, IntKind.wrap_u16, IntKind.wrap_u32]; omega) | (rw [Int.tmod_eq_emod_of_nonneg (by omega)]) | (rw [Int.tmod_eq_emod_of_nonneg (by omega)]; omega))
                · intro a vs W hX hR he hf K hK
                  rw [if_pos (wanted_none rfl)]
                  have e5 : a.eval (.tmp 5) = str rs := hf 5 (by kernel_rfl)
                  refine wp_value (v := str rs) ?_ (hK _ _ rfl (grown_refl W _))
                  simp only [execOp, e5]
                  try go_simp
                  try (first | rfl | omega | (simp only [IntKind.wrap_i64, IntKind.wrap_u8, IntKind.wrap_u64, IntKind.wrap_u16, IntKind.wrap_u32]; omega) | (rw [Int.tmod_eq_emod_of_nonneg (by omega)]) | (rw [Int.tmod_eq_emod_of_nonneg (by omega)]; omega))
                · intro a vs W hX hR he hf K hK
                  rw [if_pos (wanted_none rfl)]
                  have e47 : a.eval (.tmp 47) = str rs := (he 1 47 (by kernel_rfl) rfl).trans (hR 1 (by kernel_rfl))
                  refine wp_value (v := .int .u8 (y2 : Int)) ?_ (hK _ _ rfl (grown_refl W _))
                  simp only [execOp, e47]
                  go_simp
                · intro a vs W hX hR he hf K hK
                  rw [if_pos (wanted_none rfl)]
                  have e5 : a.eval (.tmp 5) = str rs := hf 5 (by kernel_rfl)
                  refine wp_value (v := str rs) ?_ (hK _ _ rfl (grown_refl W _))
                  simp only [execOp, e5]
                  try go_simp
                  try (first | rfl | omega | (simp only [IntKind.wrap_i64, IntKind.wrap_u8, IntKind.wrap_u64, IntKind.wrap_u16, IntKind.wrap_u32]; omega) | (rw [Int.tmod_eq_emod_of_nonneg (by omega)]) | (rw [Int.tmod_eq_emod_of_nonneg (by omega)]; omega))
                · intro a vs W hX hR he hf K hK
                  rw [if_pos (wanted_none rfl)]
                  have e49 : a.eval (.tmp 49) = str rs := (he 3 49 (by kernel_rfl) rfl).trans (hR 3 (by kernel_rfl))
                  refine wp_value (v := .int .u8 (y3 : Int)) ?_ (hK _ _ rfl (grown_refl W _))
                  simp only [execOp, e49]
                  go_simp
                · intro a vs W hX hR he hf K hK
                  rw [if_pos (wanted_none rfl)]
                  have e5 : a.eval (.tmp 5) = str rs := hf 5 (by kernel_rfl)
                  refine wp_value (v := str rs) ?_ (hK _ _ rfl (grown_refl W _))
                  simp only [execOp, e5]
                  try go_simp
                  try (first | rfl | omega | (simp only [IntKind.wrap_i64, IntKind.wrap_u8, IntKind.wrap_u64, IntKind.wrap_u16, IntKind.wrap_u32]; omega) | (rw [Int.tmod_eq_emod_of_nonneg (by omega)]) | (rw [Int.tmod_eq_emod_of_nonneg (by omega)]; omega))
                · intro a vs W hX hR he hf K hK
                  rw [if_pos (wanted_none rfl)]
                  have e8 : a.eval (.tmp 8) = .int .i64 (k : Int) := hf 8 (by kernel_rfl)
                  refine wp_value (v := .int .i64 (k : Int)) ?_ (hK _ _ rfl (grown_refl W _))
                  simp only [execOp, e8]
                  try go_simp
                  try (first | rfl | omega | (simp only [IntKind.wrap_i64, IntKind.wrap_u8, IntKind.wrap_u64, IntKind.wrap_u16, IntKind.wrap_u32]; omega) | (rw [Int.tmod_eq_emod_of_nonneg (by omega)]) | (rw [Int.tmod_eq_emod_of_nonneg (by omega)]; omega))
                · intro a vs W hX hR he hf K hK
                  rw [if_pos (wanted_none rfl)]
                  have e51 : a.eval (.tmp 51) = str rs := (he 5 51 (by kernel_rfl) rfl).trans (hR 5 (by kernel_rfl))
                  have e52 : a.eval (.tmp 52) = .int .i64 (k : Int) := (he 6 52 (by kernel_rfl) rfl).trans (hR 6 (by kernel_rfl))
                  have f51 := e51
                  simp only [Act.eval, Array.getD_eq_getD_getElem?] at f51
                  have f52 := e52
                  simp only [Act.eval, Array.getD_eq_getD_getElem?] at f52
                  refine wp_value (v := str body) ?_ (hK _ _ rfl (grown_refl W _))
                  simp only [execOp, e51, e52]
                  have hq := HBS.out
                  go_simp
                · intro a vs W hX hR he hf K hK
                  rw [if_pos (wanted_none rfl)]
                  have e48 : a.eval (.tmp 48) = .int .u8 (y2 : Int) := (he 2 48 (by kernel_rfl) rfl).trans (hR 2 (by kernel_rfl))
                  have e50 : a.eval (.tmp 50) = .int .u8 (y3 : Int) := (he 4 50 (by kernel_rfl) rfl).trans (hR 4 (by kernel_rfl))
                  have e53 : a.eval (.tmp 53) = str body := (he 7 53 (by kernel_rfl) rfl).trans (hR 7 (by kernel_rfl))
                  have f48 := e48
                  simp only [Act.eval, Array.getD_eq_getD_getElem?] at f48
                  have f50 := e50
                  simp only [Act.eval, Array.getD_eq_getD_getElem?] at f50
                  have f53 := e53
                  simp only [Act.eval, Array.getD_eq_getD_getElem?] at f53
                  refine wp_value (v := .agg (Ob.cells ⟨(y2 : Int), (y3 : Int), body⟩).toArray) ?_ (hK _ _ rfl (grown_refl W _))
                  simp only [execOp, f48, f50, f53, e48, e50, e53, Ob.cells]
                  go_simp
                · intro a vs W hX hR he hf K hK
                  rw [if_pos (wanted_none rfl)]
                  have e54 : a.eval (.tmp 54) = .agg (Ob.cells ⟨(y2 : Int), (y3 : Int), body⟩).toArray := (he 8 54 (by kernel_rfl) rfl).trans (hR 8 (by kernel_rfl))
                  have f54 := e54
                  simp only [Act.eval, Array.getD_eq_getD_getElem?] at f54
                  simp only [Ob.cells] at e54 f54
                  refine wp_value (v := .slice (some ⟨W.heap.size, 0, none⟩) 1 1) (w' := W.alloc (.cells (Ob.cells ⟨(y2 : Int), (y3 : Int), body⟩).toArray 93)) ?_ (hK _ _ ⟨_, rfl, by rw [World.size_alloc]; exact Row.new (n := 1) (sz := 3) W _ rfl⟩ (World.grownBy_alloc _ _ _))
                  simp only [execOp, e54, f54, Ob.cells]
                  go_simp
                · intro vs W2 hX2 hR
                  have q0 := hR 0 (by decide)
                  have q1 := hR 1 (by decide)
                  have q2 := hR 2 (by decide)
                  have q3 := hR 3 (by decide)
                  have q4 := hR 4 (by decide)
                  have q5 := hR 5 (by decide)
                  have q6 := hR 6 (by decide)
                  have q7 := hR 7 (by decide)
                  have q8 := hR 8 (by decide)
                  have q9 := hR 9 (by decide)
                  change vs 0 = .slice A2 q c2 at q0
                  change vs 1 = str rs at q1
                  change vs 2 = .int .u8 (y2 : Int) at q2
                  change vs 3 = str rs at q3
                  change vs 4 = .int .u8 (y3 : Int) at q4
                  change vs 5 = str rs at q5
                  change vs 6 = .int .i64 (k : Int) at q6
                  change vs 7 = str body at q7
                  change vs 8 = .agg (Ob.cells ⟨(y2 : Int), (y3 : Int), body⟩).toArray at q8
                  change (fun v W => ∃ g, v = .slice (some ⟨g, 0, none⟩) 1 1 ∧ Row W W.heap.size 3 (some ⟨g, 0, none⟩) 1 (Ob.cells ⟨(y2 : Int), (y3 : Int), body⟩)) (vs 9) W2 at q9
                  simp only [putAll, Act.put, List.setIfInBounds_toArray, List.set_cons_zero, List.set_cons_succ, List.take_succ_cons, List.take_zero, q0, q1, q2, q3, q4, q5, q6, q7, q8]
                  clear q0 q1 q2 q3 q4 q5 q6 q7 q8
                  clear hR
                  obtain ⟨g2, hv2, hrow2⟩ := q9
                  rw [hv2]
                  have hbW := bthen (below_drew _) (grow_below hX2)
                  refine wpIn_of_wp (wp_append_Own _ _ 94 rfl w.heap.size 93 _ 3 24 Tryd.underlying94 infoOb rfl (by decide) A2 q c2 _ rfl (HOB.out.below hbW) _ _ 1 1 _ rfl hrow2 (by intro u hu; simp [Ob.cells] at hu; rcases hu with rfl | rfl | rfl <;> rfl) (by simp only [maxLen]; omega) (by omega) (by have h1 := hbW.size; have h2 := HBE.out.size; omega) ?_)
                  intro A5 c5 w5 hown5 hg5
                  refine wpIn_of_wp (wp_value (v := .slice A5 (q + 1) c5) (w' := w5) (by simp only [execOp]; go_simp) ?_)
                  try simp only [List.getElem_toArray, List.getElem_cons_succ, List.getElem_cons_zero, Act.put, List.setIfInBounds_toArray, List.set_cons_zero, List.set_cons_succ]
                  go_wp2_with fail
                  go_roundw
                  case rel =>
                    refine ⟨acc ++ [⟨(y2 : Int), (y3 : Int), body⟩], f, rs.drop k, q + 1, A5, c5, rfl, HSD.out, ?_, by simp [HQ.out], by rw [List.length_drop]; omega, by rw [List.length_drop]; omega, ?_, ?_⟩
                    · rw [HGO.out, HST.out, HOG.out]
                    · rw [show obs (acc ++ [⟨(y2 : Int), (y3 : Int), body⟩]) = obs acc ++ Ob.cells ⟨(y2 : Int), (y3 : Int), body⟩ by simp [obs]]
                      exact hown5
                    · exact bgrown' (HBE.out.trans (hbW.mono HBE.out.size)) hg5 (by have h1 := hbW.size; have h2 := HBE.out.size; omega) (fun g hg => (HOB.out.lt g hg).1)
                  case measure =>
                    rw [HSD.out]
                    exact HMS.out
              · have hbt : badG rs = true := by rw [hbad]; simp; omega
                rw [if_pos hbt] at hstep
                have HST := Lib.hid hstep
                clear hstep hbt hbad
                have hcase : k < 4 ∨ (4 ≤ k ∧ rs.length < k) ∨ (4 ≤ k ∧ k ≤ rs.length ∧ k % 4 ≠ 0) := by omega
                rcases hcase with h1 | ⟨h1, h2⟩ | ⟨h1, h2, h3⟩
                · have i1 : (k : Int) < 4 := by omega
                  go_wp2_with (go_at_call 37; refine (GET.out _).mono ?_; rintro e w' ⟨rfl, rfl⟩)
                  go_ret2
                  exact ⟨none, 0, by rw [hG.out, HGO.out, HST.out]; rfl, by rw [hG.out, HGO.out, HST.out]; exact Own.nil _ _ _ _ _, HBE.out⟩
                · have i1 : ¬ (k : Int) < 4 := by omega
                  have i2 : (rs.length : Int) < (k : Int) := by omega
                  go_wp2_with (go_at_call 37; refine (GET.out _).mono ?_; rintro e w' ⟨rfl, rfl⟩)
                  go_ret2
                  exact ⟨none, 0, by rw [hG.out, HGO.out, HST.out]; rfl, by rw [hG.out, HGO.out, HST.out]; exact Own.nil _ _ _ _ _, HBE.out⟩
                · have i1 : ¬ (k : Int) < 4 := by omega
                  have i2 : ¬ (rs.length : Int) < (k : Int) := by omega
                  have i3 : (0 : Int) < (k : Int) % 4 := by omega
                  go_wp2_with (go_at_call 37; refine (GET.out _).mono ?_; rintro e w' ⟨rfl, rfl⟩)
                  go_ret2
                  exact ⟨none, 0, by rw [hG.out, HGO.out, HST.out]; rfl, by rw [hG.out, HGO.out, HST.out]; exact Own.nil _ _ _ _ _, HBE.out⟩
      · have hsi : (((rawN zs : Nat) : Int) != 65535) = true := by simp; omega
        have hG : Hid (getG zs = ([], 14)) := Lib.hid (by unfold getG; rw [if_neg h4, if_neg (by rw [hy]; exact fun h => h hv), if_pos hs])
        clear h4 hv hs hy
        go_enter Tryd.func61, Tryd.ntmps61
        go_wp2_with (go_at_call 35; refine (rraw_any zs _ (by omega)).mono ?_; rintro e w' ⟨rfl, rfl⟩)
        go_ret2
        exact ⟨none, 0, by rw [hG.out]; rfl, by rw [hG.out]; exact Own.nil _ _ _ _ _, Below.refl _ _⟩
    · have hvi : ((y : Int) / 16 != 2) = true := by simp; omega
      have hG : Hid (getG zs = ([], 12)) := Lib.hid (by unfold getG; rw [if_neg h4, if_pos (by rw [hy]; exact hv)])
      clear h4 hv hy
      go_enter Tryd.func61, Tryd.ntmps61
      go_wp2_with fail
      go_ret2
      exact ⟨none, 0, by rw [hG.out]; rfl, by rw [hG.out]; exact Own.nil _ _ _ _ _, Below.refl _ _⟩
end Go.Proofs.YtbcjkjmjljfhpaaDoor

/- What the reference's Told (layer 22) computes. No condition but sizes. -/
namespace Go.Proofs.YtbcjkjmjljfhpaaDoor
open Go.RowKit
set_option linter.unusedVariables false
set_option maxRecDepth 20000
set_option linter.unusedSimpArgs false

theorem find_first (l : List Ob) : ∀ (j : Nat) (x : Ob), l[j]? = some x → x.lab = true → (∀ (k : Nat) (y : Ob), k < j → l[k]? = some y → y.lab = false) → l.find? Ob.lab = some x := by
  induction l with
  | nil => intro j x h; simp at h
  | cons a l ih =>
    intro j x hx hl hb
    cases j with
    | zero =>
      simp at hx
      subst hx
      simp [hl]
    | succ j =>
      have ha := hb 0 a (by omega) rfl
      rw [List.find?_cons, ha]
      exact ih j x (by simpa using hx) hl (fun k y hk hy => hb (k + 1) y (by omega) (by simpa using hy))
theorem find_none (l : List Ob) (h : ∀ (k : Nat) (y : Ob), k < l.length → l[k]? = some y → y.lab = false) : l.find? Ob.lab = none := by
  rw [List.find?_eq_none]
  intro x hx
  obtain ⟨k, hk, he⟩ := List.mem_iff_getElem.1 hx
  have := h k x hk (by rw [List.getElem?_eq_getElem hk, he])
  simp [this]

set_option maxRecDepth 100000 in
set_option maxHeartbeats 4000000 in
theorem rtold22_any (zs : List UInt8) (w : World) (hmax : zs.length ≤ 1000000000) :
    Calls Tryd.prog 38 #[str zs] w fun e w' => ∃ (A' : Option Addr) (c' : Nat), e = .returned (.tuple #[.slice A' (toldG zs).1.length c', .int .i64 (toldG zs).2]) ∧ Own w' w.heap.size 49 4 A' (toldG zs).1.length c' (evs (toldG zs).1) ∧ Below w.heap.size w w' := by
  have HG := Lib.hid (rget22_any zs w hmax)
  have HLN := Lib.hid (getG_len zs)
  have HMO := Lib.hid (getG_mod zs)
  by_cases h0 : (getG zs).2 = 0
  · rw [h0] at HG
    obtain ⟨L, hL⟩ : ∃ L, (getG zs).1 = L := ⟨_, rfl⟩
    have HT : Hid (toldG zs = match L.find? Ob.lab with | none => ([], 31) | some x => if 64 < x.body.length then ([], 51) else (outs x.body (x.body.length / 4), 0)) := Lib.hid (by unfold toldG; rw [if_neg (fun h => h h0), hL]; cases L.find? Ob.lab <;> rfl)
    rw [hL] at HG HLN HMO
    obtain ⟨n, hn⟩ : ∃ n, L.length = n := ⟨_, rfl⟩
    have hnm : n ≤ 1000000000 := by have := HLN.out; omega
    have HNN := Lib.hid hn
    rw [hn] at HG
    clear h0 hL hn
    go_enter Tryd.func38, Tryd.ntmps38
    go_wp2_with fail
    refine HG.out.mono ?_
    rintro e w1 ⟨A1, c1, rfl, hown, hb⟩
    have HR := Lib.hid hown.row
    have HB := Lib.hid hb
    clear hown hb
    go_wp2_with fail
    go_loopw [6] (fun i wr => ∃ j : Nat, j ≤ n ∧ i = .int .i64 (j : Nat) ∧ (∀ (k : Nat) (y : Ob), k < j → L[k]? = some y → y.lab = false) ∧ Below w1.heap.size w1 wr) (fun i _ => n - (intOf i).toNat)
    case atStart => exact ⟨0, by omega, rfl, fun k y h => by omega, Below.refl _ _⟩
    case round =>
      obtain ⟨j, hj, rfl, hbf, hBe⟩ := hrel
      have HBF := Lib.hid hbf
      have HBE := Lib.hid hBe
      clear hbf hBe
      by_cases hlt : j < n
      · obtain ⟨x, hx⟩ : ∃ x, L[j]? = some x := ⟨_, List.getElem?_eq_getElem (by rw [HNN.out]; omega)⟩
        obtain ⟨b, o, rfl, hbb, a0, a1, a2⟩ := ob_row (HR.out.below HBE.out) j x hx
        have hbw : b < wr.heap.size := Nat.lt_of_lt_of_le hbb HBE.out.size
        have hxm := HMO.out x (List.mem_of_getElem? hx)
        have hxm2 := hxm.2
        have HXM := Lib.hid hxm.1
        have HX := Lib.hid hx
        have hji : (j : Int) < (n : Int) := by omega
        obtain ⟨cl, kd, bd⟩ := x
        dsimp only at a0 a1 a2 hxm2
        clear hx hxm
        by_cases h1 : cl = 1
        · subst h1
          have g1 : ((1 : Int) != 1) = false := by decide
          by_cases h2 : kd = 1
          · subst h2
            have HF := Lib.hid (find_first L j ⟨1, 1, bd⟩ HX.out rfl HBF.out)
            by_cases h64 : 64 < bd.length
            · have h64i : (64 : Int) < (bd.length : Int) := by omega
              go_wp2_with fail
              go_ret2
              refine ⟨none, 0, ?_, ?_, bthen HB.out HBE.out⟩
              · rw [HT.out, HF.out]; simp only [if_pos h64]; rfl
              · rw [HT.out, HF.out]; simp only [if_pos h64]; exact Own.nil _ _ _ _ _
            · have h64i : ¬ (64 : Int) < (bd.length : Int) := by omega
              obtain ⟨g, hg⟩ : ∃ g, wr.heap.size = g := ⟨_, rfl⟩
              have HGG := Lib.hid hg
              have hwr : w1.heap.size ≤ g := by rw [← hg]; exact HBE.out.size
              rw [hg] at hbw
              obtain ⟨w5, hw5⟩ : ∃ q, q = wr := ⟨_, rfl⟩
              subst hw5
              clear hg
              go_wp2_with fail
              go_loopw [7, 8] (fun v k ws => ∃ (q : Nat) (A2 : Option Addr) (c2 : Nat), 4 * q ≤ bd.length ∧ k = .int .i64 ((4 * q : Nat) : Int) ∧ v = .slice A2 q c2 ∧ Own ws g 49 4 A2 q c2 (evs (outs bd q)) ∧ Below g w5 ws) (fun _ k _ => bd.length - (intOf k).toNat)
              case atStart => exact ⟨0, none, 0, by omega, rfl, rfl, Own.nil _ _ _ _ _, Below.refl _ _⟩
              case round =>
                obtain ⟨q, A2, c2, hq, rfl, rfl, hown2, hb2⟩ := hrel
                have HO2 := Lib.hid hown2
                have HB2 := Lib.hid hb2
                have c0 := (hb2.cell (p := ⟨b, o + j * 3, none⟩) hbw).trans a0
                have c1' := (hb2.cell (p := ⟨b, o + j * 3 + 1, none⟩) hbw).trans a1
                have c2' := (hb2.cell (p := ⟨b, o + j * 3 + 2, none⟩) hbw).trans a2
                have hgs : g ≤ wr.heap.size := by have := hb2.size; have := HGG.out; omega
                clear hown2 hb2
                by_cases hql : 4 * q < bd.length
                · have hqi : (((4 * q : Nat) : Int)) < (bd.length : Int) := by omega
                  have hqi2 : ((4 * q : Nat) : Int) ≤ (bd.length : Int) := by omega
                  have hxm1 := HXM.out
                  try dsimp only at hxm1
                  have hq4 : 4 * q + 4 ≤ bd.length := by omega
                  obtain ⟨K, hK⟩ : ∃ K, 4 * q = K := ⟨_, rfl⟩
                  have UP := runpack_any (bd.drop (4 * q))
                  have HN : Hid (unpN (bd.drop (4 * q)) = 0) := Lib.hid (by unfold unpN; rw [if_neg (by rw [List.length_drop]; omega)])
                  obtain ⟨E, hEE⟩ : ∃ E, entAt bd q = E := ⟨_, rfl⟩
                  rw [HN.out, show unpE (bd.drop (4 * q)) = E from hEE] at UP
                  have HEE := Lib.hid hEE
                  have HSD := Lib.hid (str_drop bd (4 * q))
                  rw [hK] at HSD UP hqi hqi2 ⊢
                  obtain ⟨lb, cl, bt, tt⟩ := E
                  dsimp only at UP
                  have HUP := Lib.hid UP
                  have HK := Lib.hid hK
                  clear UP hEE hxm1 hK
                  go_wp2_with fail
                  rw [HSD.out]
                  refine (HUP.out _ (by rw [List.length_drop]; omega)).mono ?_
                  rintro e w6 ⟨rfl, hb6⟩
                  have ho6 := HO2.out.below hb6
                  have HO6 := Lib.hid ho6
                  have HB6 := Lib.hid (HB2.out.trans (hb6.mono hgs))
                  have hg6 : g ≤ w6.heap.size := Nat.le_trans hgs hb6.size
                  clear c0 c1' c2' ho6 hb6
                  go_wp2_with (at_builtin; refine wpList_append_Own _ rfl _ _ 23 rfl g 49 _ 4 16 Tryd.underlying23 infoEntry rfl (by decide) A2 q c2 _ rfl ((HO6.out.alloc _).alloc _) _ _ 1 1 (Ent.cells ⟨lb, cl, bt, tt⟩) rfl (by have h9 := row_newE (w6.alloc (.cells #[.int .i64 lb, .int .u8 cl, .bool bt, .int .u8 tt] 49)) ⟨lb, cl, bt, tt⟩; rw [World.size_alloc] at h9; exact h9) (by simp [Ent.cells, Value.oneCell']) (by simp only [maxLen]; omega) (by omega) (by simp; omega) ?_; intro A5 c5 w7 hown7 hg7 _)
                  go_roundw
                  case rel =>
                    refine ⟨q + 1, A5, c5, by omega, by rw [← HK.out]; congr 1, rfl, ?_, ?_⟩
                    · rw [outs_succ, evs_append, HEE.out, show evs [(⟨lb, cl, bt, tt⟩ : Ent)] = Ent.cells ⟨lb, cl, bt, tt⟩ by simp [evs]]
                      exact hown7
                    · exact bgrown' (((HB6.out).alloc hg6 _).alloc (by simp; omega) _) hg7 (by simp; omega) (fun r hr => (HO6.out.lt r hr).1)
                  case measure =>
                    have := HK.out
                    simp [intOf]
                    omega
                · have hqi : ¬ (((4 * q : Nat) : Int)) < (bd.length : Int) := by omega
                  have hqe : bd.length / 4 = q := by omega
                  have HQE := Lib.hid hqe
                  clear hqe
                  go_wp2_with fail
                  go_ret2
                  refine ⟨A2, c2, ?_, ?_, bthen HB.out (HBE.out.trans ((HB2.out.mono hwr)))⟩
                  · rw [HT.out, HF.out]; simp only [if_neg h64, HQE.out, outs_length]; rfl
                  · rw [HT.out, HF.out]; simp only [if_neg h64, HQE.out, outs_length]; exact HO2.out.mono (by have := HB.out.size; omega)
          · have g2 : (kd != 1) = true := by simpa using h2
            go_wp2_with fail
            go_roundw
            case rel => exact ⟨j + 1, by omega, by simp, fun k y hk hy => by
              rcases Nat.lt_or_ge k j with h | h
              · exact HBF.out k y h hy
              · obtain rfl : k = j := by omega
                rw [HX.out] at hy
                injection hy with hy
                subst hy
                simp [Ob.lab, h2], HBE.out⟩
            case measure => simp [intOf]; omega
        · have g1 : (cl != 1) = true := by simpa using h1
          go_wp2_with fail
          go_roundw
          case rel => exact ⟨j + 1, by omega, by simp, fun k y hk hy => by
            rcases Nat.lt_or_ge k j with h | h
            · exact HBF.out k y h hy
            · obtain rfl : k = j := by omega
              rw [HX.out] at hy
              injection hy with hy
              subst hy
              simp [Ob.lab, h1], HBE.out⟩
          case measure => simp [intOf]; omega
      · have hji : ¬ (j : Int) < (n : Int) := by omega
        obtain rfl : j = n := by omega
        have HF := Lib.hid (find_none L (fun k y hk hy => HBF.out k y (by rw [← HNN.out]; exact hk) hy))
        go_wp2_with fail
        go_ret2
        refine ⟨none, 0, ?_, ?_, bthen HB.out HBE.out⟩
        · rw [HT.out, HF.out]; rfl
        · rw [HT.out, HF.out]; exact Own.nil _ _ _ _ _
  · have HT : Hid (toldG zs = ([], (getG zs).2)) := Lib.hid (by unfold toldG; rw [if_pos h0])
    obtain ⟨q, hq⟩ : ∃ q, (getG zs).2 = q := ⟨_, rfl⟩
    rw [hq] at HG HT h0
    have hb' : (q != 0) = true := by simpa using h0
    clear hq h0
    go_enter Tryd.func38, Tryd.ntmps38
    go_wp2_with fail
    refine HG.out.mono ?_
    rintro e w1 ⟨A1, c1, rfl, _, hb⟩
    have HB := Lib.hid hb
    clear hb
    go_wp2_with fail
    go_ret2
    exact ⟨none, 0, by rw [HT.out]; rfl, by rw [HT.out]; exact Own.nil _ _ _ _ _, HB.out⟩
end Go.Proofs.YtbcjkjmjljfhpaaDoor

/- Headers of IPv4 as cells: made, compared. No condition. -/
namespace Go.Proofs.YtbcjkjmjljfhpaaDoor
open Go.RowKit
set_option linter.unusedVariables false
set_option maxRecDepth 20000
set_option linter.unusedSimpArgs false

/-- a header -/
structure H4 where
  tos : Int
  len : Int
  id : Int
  keep : Bool
  more : Bool
  off : Int
  ttl : Int
  pro : Int
  src : List UInt8
  dst : List UInt8
  opt : List UInt8
def H4.cells (h : H4) : List Value := .int .u8 h.tos :: .int .i64 h.len :: .int .u16 h.id :: .bool h.keep :: .bool h.more :: .int .i64 h.off :: .int .u8 h.ttl :: .int .u8 h.pro :: (bv h.src ++ (bv h.dst ++ [str h.opt]))
def z4 : List UInt8 := [0, 0, 0, 0]
def H4.zero : H4 := ⟨0, 0, 0, false, false, 0, 0, 0, z4, z4, []⟩
structure H4.ok (h : H4) : Prop where
  src : h.src.length = 4
  dst : h.dst.length = 4
theorem H4.zero_ok : H4.zero.ok := ⟨rfl, rfl⟩
theorem H4.cells_length (h : H4) (ho : h.ok) : h.cells.length = 17 := by simp [H4.cells, bv_length, ho.src, ho.dst]
theorem H4.cells_same (h k : H4) (ho : h.ok) (ko : k.ok) : h.cells.length = k.cells.length := by rw [h.cells_length ho, k.cells_length ko]
theorem H4.one (h : H4) : ∀ v ∈ h.cells, v.oneCell' = true := by
  intro v hv
  simp only [H4.cells, List.mem_cons, List.mem_append, List.not_mem_nil, or_false] at hv
  rcases hv with rfl | rfl | rfl | rfl | rfl | rfl | rfl | rfl | hv | hv | rfl
  · rfl
  · rfl
  · rfl
  · rfl
  · rfl
  · rfl
  · rfl
  · rfl
  · exact bv_one _ v hv
  · exact bv_one _ v hv
  · rfl
theorem H4.drop_src (h : H4) (ho : h.ok) : (h.cells.drop 8).take 4 = bv h.src := by
  simp only [H4.cells, List.drop_succ_cons, List.drop_zero]
  exact List.take_left' (by rw [bv_length, ho.src])
theorem H4.drop_dst (h : H4) (ho : h.ok) : (h.cells.drop 12).take 4 = bv h.dst := by
  simp only [H4.cells, List.drop_succ_cons]
  rw [List.drop_left' (by rw [bv_length, ho.src])]
  exact List.take_left' (by rw [bv_length, ho.dst])
theorem H4.get_opt (h : H4) (ho : h.ok) : h.cells[16]? = some (str h.opt) := by
  simp only [H4.cells, List.getElem?_cons_succ]
  rw [List.getElem?_append_right (by rw [bv_length, ho.src]; omega), List.getElem?_append_right (by rw [bv_length, bv_length, ho.src, ho.dst]; omega)]
  simp [bv_length, ho.src, ho.dst]
theorem H4.put_src (h : H4) (ho : h.ok) (l : List UInt8) (hl : l.length = 4) : h.cells.take 8 ++ bv l ++ h.cells.drop (8 + (bv l).length) = { h with src := l }.cells := by
  rw [bv_length, hl]
  simp only [H4.cells, List.take_succ_cons, List.take_zero, List.drop_succ_cons, List.cons_append, List.nil_append]
  rw [List.drop_left' (by rw [bv_length, ho.src])]
theorem H4.put_dst (h : H4) (ho : h.ok) (l : List UInt8) (hl : l.length = 4) : h.cells.take 12 ++ bv l ++ h.cells.drop (12 + (bv l).length) = { h with dst := l }.cells := by
  rw [bv_length, hl]
  simp only [H4.cells, List.take_succ_cons, List.drop_succ_cons, List.cons_append, List.append_assoc]
  rw [List.take_left' (by rw [bv_length, ho.src]), show (8 : Nat) = 4 + 4 from rfl, ← List.drop_drop, List.drop_left' (by rw [bv_length, ho.src]), List.drop_left' (by rw [bv_length, ho.dst])]
end Go.Proofs.YtbcjkjmjljfhpaaDoor

/- What the small functions of the program's and the reference's IPv4 compute, and what reading bytes as a header comes to. No condition but sizes. -/
namespace Go.Proofs.YtbcjkjmjljfhpaaDoor
open Go.RowKit
set_option linter.unusedVariables false
set_option maxRecDepth 20000
set_option linter.unusedSimpArgs false

/-- numbers of two bytes, one behind the other -/
def twos (xs : List Int) : List UInt8 := xs.flatMap fun x => toBe 2 x.toNat
theorem twos_snoc (xs : List Int) (x : Int) : twos (xs ++ [x]) = twos xs ++ toBe 2 x.toNat := by simp [twos]
theorem twos_length (xs : List Int) : (twos xs).length = 2 * xs.length := by
  induction xs with
  | nil => rfl
  | cons x xs ih =>
    have h1 : twos (x :: xs) = toBe 2 x.toNat ++ twos xs := rfl
    rw [h1, List.length_append, ih, toBe_length, List.length_cons]
    omega
theorem toBe2 (x : Nat) (h : x ≤ 65535) : toBe 2 x = [UInt8.ofNat (x / 256), UInt8.ofNat (x % 256)] := by
  have e : x / 256 % 256 = x / 256 := Nat.mod_eq_of_lt (by omega)
  simp [toBe, e]
theorem two_bytes (x : Int) (h0 : 0 ≤ x) (h1 : x ≤ 65535) : [Value.int .u8 (x / 256), .int .u8 (x % 256)] = bv (toBe 2 x.toNat) := by
  obtain ⟨m, rfl⟩ := Int.eq_ofNat_of_zero_le h0
  rw [Int.toNat_natCast, toBe2 m (by omega)]
  simp only [bv, List.map_cons, List.map_nil]
  have e1 : ((UInt8.ofNat (m / 256)).toNat : Int) = (m : Int) / 256 := by rw [UInt8.toNat_ofNat', Nat.mod_eq_of_lt (by omega)]; omega
  have e2 : ((UInt8.ofNat (m % 256)).toNat : Int) = (m : Int) % 256 := by rw [UInt8.toNat_ofNat', Nat.mod_eq_of_lt (by omega)]; omega
  rw [e1, e2]

theorem i64_and_nat (a b : Nat) (ha : a < 9223372036854775808) (hb : b < 9223372036854775808) : bits .and .i64 (a : Int) (b : Int) = ((a &&& b : Nat) : Int) := by
  have h1 : (BitVec.ofInt 64 (a : Int)).toNat = a := by rw [BitVec.toNat_ofInt]; omega
  have h2 : (BitVec.ofInt 64 (b : Int)).toNat = b := by rw [BitVec.toNat_ofInt]; omega
  have h3 : a &&& b ≤ a := Nat.and_le_left
  show IntKind.i64.wrap ((BitVec.ofInt 64 (a : Int) &&& BitVec.ofInt 64 (b : Int)).toNat : Nat) = _
  rw [BitVec.toNat_and, h1, h2, IntKind.wrap_i64]
  omega
theorem i64_or_nat (a b : Nat) (ha : a < 4294967296) (hb : b < 4294967296) : bits .or .i64 (a : Int) (b : Int) = ((a ||| b : Nat) : Int) := by
  have h1 : (BitVec.ofInt 64 (a : Int)).toNat = a := by rw [BitVec.toNat_ofInt]; omega
  have h2 : (BitVec.ofInt 64 (b : Int)).toNat = b := by rw [BitVec.toNat_ofInt]; omega
  have h3 : a ||| b < 2 ^ 32 := Nat.or_lt_two_pow (by omega) (by omega)
  show IntKind.i64.wrap ((BitVec.ofInt 64 (a : Int) ||| BitVec.ofInt 64 (b : Int)).toNat : Nat) = _
  rw [BitVec.toNat_or, h1, h2, IntKind.wrap_i64]
  omega
theorem i64_bit (F i : Nat) (hF : F < 65536) (hi : i < 16) : bits .and .i64 (F : Int) ((2 ^ i : Nat) : Int) = ((F / 2 ^ i % 2 * 2 ^ i : Nat) : Int) := by
  have h2 : 2 ^ i < 2 ^ 16 := Nat.pow_lt_pow_right (by omega) hi
  rw [i64_and_nat F (2 ^ i) (by omega) (by omega)]
  congr 1
  apply Nat.eq_of_testBit_eq
  intro j
  rw [Nat.testBit_and, Nat.testBit_two_pow]
  by_cases hj : i = j
  · subst hj
    rw [Nat.testBit_eq_decide_div_mod_eq]
    rcases Nat.mod_two_eq_zero_or_one (F / 2 ^ i) with h | h <;> simp [h]
  · rcases Nat.mod_two_eq_zero_or_one (F / 2 ^ i) with h | h
    · simp [h, hj]
    · simp [h, hj, Nat.testBit_two_pow]
theorem keep4 (F : Nat) (hF : F < 65536) : (bits .and .i64 (F : Int) 16384 != 0) = decide (F / 16384 % 2 = 1) := by
  have h := i64_bit F 14 hF (by omega)
  have h' : bits .and .i64 (F : Int) 16384 = ((F / 16384 % 2 * 16384 : Nat) : Int) := h
  rw [h']
  rcases Nat.mod_two_eq_zero_or_one (F / 16384) with h | h <;> simp [h]
theorem more4 (F : Nat) (hF : F < 65536) : (bits .and .i64 (F : Int) 8192 != 0) = decide (F / 8192 % 2 = 1) := by
  have h := i64_bit F 13 hF (by omega)
  have h' : bits .and .i64 (F : Int) 8192 = ((F / 8192 % 2 * 8192 : Nat) : Int) := h
  rw [h']
  rcases Nat.mod_two_eq_zero_or_one (F / 8192) with h | h <;> simp [h]
theorem off4 (F : Nat) (hF : F < 65536) : bits .and .i64 (F : Int) 8191 = ((F % 8192 : Nat) : Int) := by
  have h := i64_and_nat F 8191 (by omega) (by omega)
  rw [show (8191 : Nat) = 2 ^ 13 - 1 from rfl, Nat.and_two_pow_sub_one_eq_mod] at h
  exact h
theorem low4 (u : Nat) (h : u < 256) : bits .and .u8 (u : Int) 15 = ((u % 16 : Nat) : Int) := by
  have := u8_and_nat u 15 h (by omega)
  rw [nat_mask4] at this
  exact this

/-- how long the header is, by its first byte -/
def size4n (l : List UInt8) : Nat := (l.getD 0 0).toNat % 16 * 4
/-- the header that bytes begin with, and its error -/
def par4 (l : List UInt8) : H4 × Int :=
  if l.length < 20 then (H4.zero, 10) else
  if (l.getD 0 0).toNat / 16 ≠ 4 then (H4.zero, 12) else
  if size4n l < 20 ∨ numF l 2 2 < size4n l ∨ l.length < numF l 2 2 then (H4.zero, 13) else
  if rawN (l.take (size4n l)) ≠ 65535 then (H4.zero, 14) else
  (⟨((l.getD 1 0).toNat : Nat), (numF l 2 2 : Nat), (numF l 4 2 : Nat), decide (numF l 6 2 / 16384 % 2 = 1), decide (numF l 6 2 / 8192 % 2 = 1), (numF l 6 2 % 8192 : Nat), ((l.getD 8 0).toNat : Nat), ((l.getD 9 0).toNat : Nat), (l.drop 12).take 4, (l.drop 16).take 4, (l.take (size4n l)).drop 20⟩, 0)
theorem par4_ok (l : List UInt8) : (par4 l).1.ok := by
  unfold par4
  repeat' split
  · exact H4.zero_ok
  · exact H4.zero_ok
  · exact H4.zero_ok
  · exact H4.zero_ok
  · rename_i h1 h2 h3 h4
    exact ⟨by simp; omega, by simp; omega⟩
end Go.Proofs.YtbcjkjmjljfhpaaDoor

/- What the program's reading of bytes as a header of IPv4 computes. No condition but sizes. -/
namespace Go.Proofs.YtbcjkjmjljfhpaaDoor
open Go.RowKit
set_option linter.unusedVariables false
set_option maxRecDepth 20000
set_option linter.unusedSimpArgs false
end Go.Proofs.YtbcjkjmjljfhpaaDoor

/- What the reference's reading of bytes as a header of IPv4 computes. No condition but sizes. -/
namespace Go.Proofs.YtbcjkjmjljfhpaaDoor
open Go.RowKit
set_option linter.unusedVariables false
set_option maxRecDepth 20000
set_option linter.unusedSimpArgs false
end Go.Proofs.YtbcjkjmjljfhpaaDoor


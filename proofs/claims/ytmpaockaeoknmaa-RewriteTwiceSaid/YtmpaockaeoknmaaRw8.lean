/- What rewrite.Do's closures compute. No condition but sizes. -/
import Derived.Test.YtmpaockaeoknmaaRw7
namespace Go.Proofs.Ytmpaockaeoknmaa
open Go.RowKit
set_option linter.unusedVariables false
set_option maxRecDepth 20000
set_option linter.unusedSimpArgs false

def OutR (base : Nat) (R : List Ent × Int) (v : Value) (W : World) : Prop := ∃ A c, v = .tuple #[.slice A R.1.length c, .int .i64 R.2] ∧ Own W base 46 4 A R.1.length c (evs R.1)
theorem mono_outR (base : Nat) (R : List Ent × Int) : ∀ v A B, OutR base R v A → World.grownBy A B none → OutR base R v B := fun _ _ _ ⟨X, c, hv, h⟩ hg => ⟨X, c, hv, h.below (grow_below hg)⟩

theorem exec_callv {w : World} {oo : Oper} {ca : Act} (x y : Operand) (tys : Array TypeId) (m : Nat) (rs : Array Value) (v : Value) (ho : oo.op = .call { callee := .value x, args := #[y], argTypes := tys }) (hx : ca.eval x = .func (.func m) #[] rs) (hy : ca.eval y = v)
    (hf : (callFunc m (#[v] ++ rs)).run Try.prog w = .ok (.enter m (#[v] ++ rs)) w) : (execOp ca.eval oo).run Try.prog w = .ok (.enter m (#[v] ++ rs)) w := by
  have hm : #[y].map ca.eval = #[v] := by simp [hy]
  unfold execOp
  simp only [ho]
  simp only [resolve, hx, hm]
  exact hf
theorem exec_callv0 {w : World} {oo : Oper} {ca : Act} (x : Operand) (tys : Array TypeId) (m : Nat) (rs : Array Value) (ho : oo.op = .call { callee := .value x, args := #[], argTypes := tys }) (hx : ca.eval x = .func (.func m) #[] rs)
    (hf : (callFunc m (#[] ++ rs)).run Try.prog w = .ok (.enter m (#[] ++ rs)) w) : (execOp ca.eval oo).run Try.prog w = .ok (.enter m (#[] ++ rs)) w := by
  have hm : (#[] : Array Operand).map ca.eval = #[] := by simp
  unfold execOp
  simp only [ho]
  simp only [resolve, hx, hm]
  exact hf

set_option maxHeartbeats 4000000 in
theorem do3_any (B0 g1 g2 g3 g4 g5 b o n c : Nat) (x : Ent) (t z : Int) (zs : List Int) (l : List Ent) (m : Hp) (w : World) (hh : Held w g1 g2 g3 g4 g5 b o n c x t l m) (hg : g1 ≠ g2 ∧ g1 ≠ g3 ∧ g1 ≠ g4 ∧ g1 ≠ g5) (hB : B0 ≤ g1)
    (hm : Row w B0 1 m.lA m.ln (nv .i64 m.l)) (hmc : m.ln ≤ m.lc) (hmm : m.lc ≤ maxLen) (hz : m.l = z :: zs) (hln : m.ln ≤ 1000000)
    (h : Row w B0 4 (some ⟨b, o, none⟩) n (evs l)) (hn1 : 1 ≤ n) (hc : n ≤ c) (hcm : c ≤ maxLen) (hn : n ≤ 1000000) (hcl : 0 ≤ x.cls ∧ x.cls ≤ 255) :
    Calls Try.prog 24 #[.pointer (some ⟨g5, 0, none⟩), .pointer (some ⟨g1, 0, none⟩), .pointer (some ⟨g4, 0, none⟩)] w fun e w' => ∃ A' c', e = .returned (.tuple #[.slice A' (outE (pushF ⟨z, x.cls, x.bot, x.ttl⟩ t zs l)).1.length c', .int .i64 (outE (pushF ⟨z, x.cls, x.bot, x.ttl⟩ t zs l)).2]) ∧ Own w' B0 46 4 A' (outE (pushF ⟨z, x.cls, x.bot, x.ttl⟩ t zs l)).1.length c' (evs (outE (pushF ⟨z, x.cls, x.bot, x.ttl⟩ t zs l)).1) ∧ Below B0 w w' := by
  have hzl : m.ln = zs.length + 1 := by have := hm.1; rw [nv_length, hz] at this; simpa using this.symm
  obtain ⟨bl, ol, hlA, hbl, hcl0⟩ := hm.cells (by omega)
  have k0 := hcl0 0 (.int .i64 z) (by rw [hz]; rfl)
  rw [Nat.add_zero] at k0
  obtain ⟨T, hT⟩ := hh.fn
  have d1 : w.cell? ⟨g5, 1, none⟩ = some (.slice (some ⟨bl, ol, none⟩) m.ln m.lc) := (hh.hop.cell 1).trans (by rw [← hlA]; rfl)
  have d2 : w.cell? ⟨g1, 0, none⟩ = some (.int .i64 x.label) := hh.top.cell 0
  have d3 := hh.top.frozen 0
  have hB0 : B0 ≤ w.heap.size := Nat.le_trans hB (Nat.le_of_lt hh.top.lt)
  have hcut := hm.cut (k := 1) (cap := m.lc) (by omega) hmc
  rw [hlA, addr_addR] at hcut
  have hdr : (nv .i64 m.l).drop (1 * 1) = nv .i64 zs := by rw [hz]; rfl
  rw [hdr] at hcut
  obtain ⟨ZA, hZA⟩ : ∃ q, (if m.lc = 1 then some ⟨bl, ol, none⟩ else some ⟨bl, ol + 1 * 1, none⟩ : Option Addr) = q := ⟨_, rfl⟩
  rw [hZA] at hcut
  have hmln0 : 0 < m.ln := by omega
  have hx' := hh.top.set 0 (.int .i64 z)
  have h2' := hh.t8.far (p := ⟨g1, 0, none⟩) (Ne.symm hg.1) (.int .i64 z)
  have h3' := hh.row.far (p := ⟨g1, 0, none⟩) (Ne.symm hg.2.1) (.int .i64 z)
  have h4' := hT.far (p := ⟨g1, 0, none⟩) (Ne.symm hg.2.2.1) (.int .i64 z)
  have h5' := hh.hop.far (p := ⟨g1, 0, none⟩) (Ne.symm hg.2.2.2) (.int .i64 z)
  have hW1 := (Below.refl B0 w).setCell (p := ⟨g1, 0, none⟩) hB (.int .i64 z)
  have hsz : (w.setCell ⟨g1, 0, none⟩ (.int .i64 z)).heap.size = w.heap.size := by simp
  obtain ⟨R, hR⟩ : ∃ R, outE (pushF ⟨z, x.cls, x.bot, x.ttl⟩ t zs l) = R := ⟨_, rfl⟩
  have HT := Lib.hid (show ∀ W : World, w.heap.size ≤ W.heap.size → Blk W g1 46 (x.cells.set 0 (.int .i64 z)) → Blk W g2 5 [.int .u8 t] → Blk W g3 22 [.slice (some ⟨b, o, none⟩) n c] → Below B0 w W → _ from fun W hs a1 a2 a3 hb => push20_any ZA (m.ln - 1) (m.lc - 1) zs g1 g2 g3 b o ⟨z, x.cls, x.bot, x.ttl⟩ t n c l W a1 a2 a3 ((hcut.below hb).more (Nat.le_trans hB0 hs)) (by omega) ((h.below hb).more (Nat.le_trans hB0 hs)) hn1 hc hcm hn hcl)
  rw [hR] at HT ⊢
  have HX := Lib.hid hx'
  have H2 := Lib.hid h2'
  have H3 := Lib.hid h3'
  have H4 := Lib.hid h4'
  have H5 := Lib.hid h5'
  have HW := Lib.hid hW1
  have HS := Lib.hid hsz
  have HLA := Lib.hid hlA
  have HZA := Lib.hid hZA
  clear hx' h2' h3' h4' h5' hW1 hsz hR hcl0 hm h hz hcut hZA hdr hh hT hlA hzl hbl
  go_enter Try.func24, Try.ntmps24
  go_wp2_with fail
  obtain ⟨w1, hw1⟩ : ∃ q, q = w.setCell ⟨g1, 0, none⟩ (.int .i64 z) := ⟨_, rfl⟩
  rw [← hw1] at HX H2 H3 H4 H5 HW HS ⊢
  clear hw1 d1 d2 d3 k0
  have PW := Lib.hid (show ∀ W : World, Below w1.heap.size w1 W → _ from fun W hb => HT.out W (Nat.le_trans (Nat.le_of_eq HS.out.symm) hb.size) (HX.out.on hb) (H2.out.on hb) (H3.out.on hb) ((HW.out).trans (hb.mono (Nat.le_trans hB0 (Nat.le_of_eq HS.out.symm)))))
  have HLE := Lib.hid (Nat.le_trans hB0 (Nat.le_of_eq HS.out.symm))
  clear HT
  refine wp_region_rel (fun A B => A.grownBy B none) (fun A => grown_refl A _) (fun A B C h k => grown_trans h k) (relAt (List.cons (fun v _ => v = pushV g1 g2 g3) (List.cons (fun v _ => v = .pointer (some ⟨g5, 1, none⟩)) (List.cons (fun v _ => v = .slice (some ⟨bl, ol, none⟩) m.ln m.lc) (List.cons (fun v _ => v = .slice ZA (m.ln - 1) (m.lc - 1)) (List.cons (OutR B0 R) (List.cons (fun v W => ∃ A c, v = .slice A R.1.length c ∧ Own W B0 46 4 A R.1.length c (evs R.1)) (List.cons (fun v _ => v = .int .i64 R.2) (List.cons (fun v W => ∃ A c, v = .slice A R.1.length c ∧ Own W B0 46 4 A R.1.length c (evs R.1)) (List.cons (fun v _ => v = .int .i64 R.2) ([]))))))))))) (MonoL.at_ (.cons (mono_val _) (.cons (mono_val _) (.cons (mono_val _) (.cons (mono_val _) (.cons (mono_outR _ _) (.cons (fun _ _ _ ⟨X, c, hv, h⟩ hg => ⟨X, c, hv, h.below (grow_below hg)⟩) (.cons (mono_val _) (.cons (fun _ _ _ ⟨X, c, hv, h⟩ hg => ⟨X, c, hv, h.below (grow_below hg)⟩) (.cons (mono_val _) .nil)))))))))) (by kernel_rfl) (by kernel_rfl) ⟨?_, ?_, ?_, ?_, ?_, ?_, ?_, ?_, ?_, trivial⟩ ?_
  · intro a vs W hX hR he hf K hK
    rw [if_pos (wanted_none rfl)]
    have e2 : a.eval (.tmp 2) = .pointer (some ⟨g4, 0, none⟩) := hf 2 (by kernel_rfl)
    have hbW := bthen (below_drew _) (grow_below hX)
    have hc : W.cell? ⟨g4, 0, none⟩ = some (pushV g1 g2 g3) := (H4.out.on hbW).cell 0
    unfold pushV at hc
    refine wp_value (v := pushV g1 g2 g3) ?_ (hK _ _ rfl (grown_refl W _))
    unfold pushV
    simp only [execOp, e2]
    go_simp
  · intro a vs W hX hR he hf K hK
    rw [if_pos (wanted_none rfl)]
    have e0 : a.eval (.tmp 0) = .pointer (some ⟨g5, 0, none⟩) := hf 0 (by kernel_rfl)
    refine wp_value (v := .pointer (some ⟨g5, 1, none⟩)) ?_ (hK _ _ rfl (grown_refl W _))
    simp only [execOp, e0]
    try go_simp
    try (first | rfl | omega | (simp only [IntKind.wrap_i64, IntKind.wrap_u8, IntKind.wrap_u64, IntKind.wrap_u16, IntKind.wrap_u32]; omega) | (rw [Int.tmod_eq_emod_of_nonneg (by omega)]) | (rw [Int.tmod_eq_emod_of_nonneg (by omega)]; omega))
  · intro a vs W hX hR he hf K hK
    rw [if_pos (wanted_none rfl)]
    have e11 : a.eval (.tmp 11) = .pointer (some ⟨g5, 1, none⟩) := (he 1 11 (by kernel_rfl) rfl).trans (hR 1 (by kernel_rfl))
    have hbW := bthen (below_drew _) (grow_below hX)
    have hc : W.cell? ⟨g5, 1, none⟩ = some (.slice (some ⟨bl, ol, none⟩) m.ln m.lc) := ((H5.out.on hbW).cell 1).trans (by rw [← HLA.out]; rfl)
    refine wp_value (v := _) ?_ (hK _ _ rfl (grown_refl W _))
    simp only [execOp, e11]
    go_simp
  · intro a vs W hX hR he hf K hK
    rw [if_pos (wanted_none rfl)]
    have e12 : a.eval (.tmp 12) = .slice (some ⟨bl, ol, none⟩) m.ln m.lc := (he 2 12 (by kernel_rfl) rfl).trans (hR 2 (by kernel_rfl))
    have f12 := e12
    simp only [Act.eval, Array.getD_eq_getD_getElem?] at f12
    have hn2i : (1 : Int) ≤ (m.ln : Int) := by omega
    have hnci : ¬ (m.lc : Int) < (m.ln : Int) := by omega
    refine wp_value (v := _) ?_ (hK _ _ rfl (grown_refl W _))
    simp only [execOp, e12]
    go_simp
    first | done | (rw [show (if m.lc = 1 then (some ⟨bl, ol, none⟩ : Option Addr) else some ⟨bl, ol + 1, none⟩) = ZA from HZA.out])
  · intro a vs W hX hR he hf K hK
    rw [if_pos (wanted_none rfl)]
    have e10 : a.eval (.tmp 10) = pushV g1 g2 g3 := (he 0 10 (by kernel_rfl) rfl).trans (hR 0 (by kernel_rfl))
    have e13 : a.eval (.tmp 13) = .slice ZA (m.ln - 1) (m.lc - 1) := (he 3 13 (by kernel_rfl) rfl).trans (hR 3 (by kernel_rfl))
    have hbW := bthen (below_drew _) (grow_below hX)
    refine wp_enter (f := 20) (args := #[.slice ZA (m.ln - 1) (m.lc - 1), .pointer (some ⟨g1, 0, none⟩), .pointer (some ⟨g2, 0, none⟩), .pointer (some ⟨g3, 0, none⟩)]) (exec_callv _ _ _ _ #[.pointer (some ⟨g1, 0, none⟩), .pointer (some ⟨g2, 0, none⟩), .pointer (some ⟨g3, 0, none⟩)] _ rfl e10 e13 (by kernel_rfl)) ((PW.out W hbW).mono ?_)
    rintro q w' ⟨A3, c3, rfl, hown, hb⟩
    exact ⟨_, rfl, hK _ _ ⟨A3, c3, rfl, hown.mono (Nat.le_trans HLE.out hbW.size)⟩ (below_grow hb _)⟩
  · intro a vs W hX hR he hf K hK
    rw [if_pos (wanted_none rfl)]
    have e14 := he 4 14 (by kernel_rfl) rfl
    have p14 := hR 4 (by kernel_rfl)
    change (OutR B0 R) (vs 4) W at p14
    obtain ⟨A3, c3, hv, ho⟩ := p14
    rw [hv] at e14
    refine wp_value (v := .slice A3 R.1.length c3) ?_ (hK _ _ ⟨A3, c3, rfl, ho⟩ (grown_refl W _))
    simp only [execOp, e14]
    try go_simp
  · intro a vs W hX hR he hf K hK
    rw [if_pos (wanted_none rfl)]
    have e14 := he 4 14 (by kernel_rfl) rfl
    have p14 := hR 4 (by kernel_rfl)
    change (OutR B0 R) (vs 4) W at p14
    obtain ⟨A3, c3, hv, ho⟩ := p14
    rw [hv] at e14
    refine wp_value (v := .int .i64 R.2) ?_ (hK _ _ rfl (grown_refl W _))
    simp only [execOp, e14]
    try go_simp
  · intro a vs W hX hR he hf K hK
    rw [if_pos (wanted_none rfl)]
    have e15 := he 5 15 (by kernel_rfl) rfl
    have p15 := hR 5 (by kernel_rfl)
    change (fun v W => ∃ A c, v = .slice A R.1.length c ∧ Own W B0 46 4 A R.1.length c (evs R.1)) (vs 5) W at p15
    refine wp_value (v := _) ?_ (hK _ _ p15 (grown_refl W _))
    simp only [execOp, e15]
    try go_simp
  · intro a vs W hX hR he hf K hK
    rw [if_pos (wanted_none rfl)]
    have e16 : a.eval (.tmp 16) = .int .i64 R.2 := (he 6 16 (by kernel_rfl) rfl).trans (hR 6 (by kernel_rfl))
    refine wp_value (v := .int .i64 R.2) ?_ (hK _ _ rfl (grown_refl W _))
    simp only [execOp, e16]
    try go_simp
    try (first | rfl | omega | (simp only [IntKind.wrap_i64, IntKind.wrap_u8, IntKind.wrap_u64, IntKind.wrap_u16, IntKind.wrap_u32]; omega) | (rw [Int.tmod_eq_emod_of_nonneg (by omega)]) | (rw [Int.tmod_eq_emod_of_nonneg (by omega)]; omega))
  · intro vs w2 hX2 hR
    have q0 := hR 0 (by decide)
    have q1 := hR 1 (by decide)
    have q2 := hR 2 (by decide)
    have q3 := hR 3 (by decide)
    have q4 := hR 4 (by decide)
    have q5 := hR 5 (by decide)
    have q6 := hR 6 (by decide)
    have q7 := hR 7 (by decide)
    have q8 := hR 8 (by decide)
    change vs 0 = pushV g1 g2 g3 at q0
    change vs 1 = .pointer (some ⟨g5, 1, none⟩) at q1
    change vs 2 = .slice (some ⟨bl, ol, none⟩) m.ln m.lc at q2
    change vs 3 = .slice ZA (m.ln - 1) (m.lc - 1) at q3
    change (OutR B0 R) (vs 4) w2 at q4
    change (fun v W => ∃ A c, v = .slice A R.1.length c ∧ Own W B0 46 4 A R.1.length c (evs R.1)) (vs 5) w2 at q5
    change vs 6 = .int .i64 R.2 at q6
    change (fun v W => ∃ A c, v = .slice A R.1.length c ∧ Own W B0 46 4 A R.1.length c (evs R.1)) (vs 7) w2 at q7
    change vs 8 = .int .i64 R.2 at q8
    simp only [putAll, Act.put, List.setIfInBounds_toArray, List.set_cons_zero, List.set_cons_succ, q0, q1, q2, q3, q6, q8]
    clear q0 q1 q2 q3 q6 q8
    clear hR
    obtain ⟨A4, c4, hv4, ho4⟩ := q7
    rw [hv4]
    go_wp2_with fail
    go_ret2
    exact ⟨A4, c4, rfl, ho4, HW.out.trans ((bthen (below_drew _) (grow_below hX2)).mono HLE.out)⟩

/-- what taking off leaves -/
def popF (l : List Ent) (p : Bool) : List Ent × Int := if (belowF l p).2 then outE (belowF l p).1 else ([], 56)
set_option maxHeartbeats 4000000 in
theorem do4_any (g3 g5 n c : Nat) (A : Option Addr) (l : List Ent) (m : Hp) (w : World) (hl : Blk w g3 22 [.slice A n c]) (hh : Blk w g5 25 m.cells) (h : Row w w.heap.size 4 A n (evs l)) (hc : n ≤ c) (hcm : c ≤ maxLen) (hn : n ≤ 1099511627) (hf : ∀ x ∈ l, x.fitR) :
    Calls Try.prog 25 #[.pointer (some ⟨g3, 0, none⟩), .pointer (some ⟨g5, 0, none⟩)] w fun e w' => ∃ A' c', e = .returned (.tuple #[.slice A' (popF l m.pipe).1.length c', .int .i64 (popF l m.pipe).2]) ∧ Own w' w.heap.size 46 4 A' (popF l m.pipe).1.length c' (evs (popF l m.pipe).1) ∧ Below w.heap.size w w' := by
  have d0 : w.cell? ⟨g3, 0, none⟩ = some (.slice A n c) := hl.cell 0
  have d1 : w.cell? ⟨g5, 5, none⟩ = some (.bool m.pipe) := hh.cell 5
  have P := below_any A n c l m.pipe w h hc hcm hn hf
  have hbl : (belowF l m.pipe).1.length ≤ n := by
    have := ent_len h
    unfold belowF
    split
    · simp
    · simp
    · split <;> simp_all <;> omega
  obtain ⟨L, hL⟩ : ∃ q, (belowF l m.pipe).1 = q := ⟨_, rfl⟩
  obtain ⟨F, hF⟩ : ∃ q, (belowF l m.pipe).2 = q := ⟨_, rfl⟩
  rw [hL, hF] at P
  rw [hL] at hbl
  have HP := Lib.hid P
  have HBL := Lib.hid hbl
  have hv : popF l m.pipe = if F then outE L else ([], 56) := by unfold popF; rw [hL, hF]
  rw [hv]
  clear P hbl hl hh h hL hF hv hf
  go_enter Try.func25, Try.ntmps25
  go_wp2_with fail
  refine HP.out.mono ?_
  rintro e w1 ⟨A1, c1, rfl, hown, hb1⟩
  clear d0 d1
  have HO := Lib.hid hown
  have HB := Lib.hid hb1
  clear hown hb1
  cases F
  · go_wp2_with fail
    go_ret2
    exact ⟨none, 0, rfl, Own.nil _ _ _ _ _, HB.out⟩
  · go_wp2_with fail
    have hal := alloc_belowR w1 (.cells #[.slice A1 L.length c1] 22)
    refine (stack20_any _ 1 1 [⟨A1, L.length, c1, L⟩] _ (row_valsR w1 #[.slice A1 L.length c1] 1 _ rfl rfl) (by
      intro q hq
      obtain rfl := List.mem_singleton.1 hq
      exact (HO.out.row.below hal).more hal.size) (by omega) (by have := HBL.out; show (allE [_]).length ≤ _; simp only [allE, List.flatMap_cons, List.flatMap_nil, List.append_nil]; omega)).mono ?_
    rintro e w2 ⟨A2, c2, rfl, hown2, hb2⟩
    have hall : allE [⟨A1, L.length, c1, L⟩] = L := by simp [allE]
    rw [hall] at hown2 ⊢
    have HB2 := Lib.hid (bthen HB.out (bthen hal hb2))
    by_cases h16 : L.length ≤ 16
    · have hfe : fitE L = L := by unfold fitE; rw [if_pos h16]
      have hoe : outE L = (L, 0) := by unfold outE; rw [if_pos h16]
      rw [hfe] at hown2 ⊢
      rw [decide_eq_true h16]
      have HOE := Lib.hid hoe
      have HO2 := Lib.hid hown2
      clear hfe hoe hown2 hb2 hal h16
      go_wp2_with fail
      go_ret2
      exact ⟨A2, c2, by simp only [if_true, HOE.out]; rfl, by simp only [if_true, HOE.out]; exact HO2.out.mono (Nat.le_trans HB.out.size (by simp)), HB2.out⟩
    · have hoe : outE L = ([], 51) := by unfold outE; rw [if_neg h16]
      rw [decide_eq_false h16]
      have HOE := Lib.hid hoe
      clear hoe hown2 hb2 hal h16
      go_wp2_with fail
      go_ret2
      exact ⟨none, 0, by simp only [if_true, HOE.out]; rfl, by simp only [if_true, HOE.out]; exact Own.nil _ _ _ _ _, HB2.out⟩
end Go.Proofs.Ytmpaockaeoknmaa

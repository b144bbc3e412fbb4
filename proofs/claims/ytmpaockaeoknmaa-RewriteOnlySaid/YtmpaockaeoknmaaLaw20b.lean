/- The walk of RewriteOnly of layer 20 (rewrite). No condition but those of the row. -/
import Derived.Test.YtmpaockaeoknmaaLaw20a
namespace Go.Proofs.Ytmpaockaeoknmaa
open Go.RowKit Go.Maps
set_option linter.unusedVariables false
set_option maxRecDepth 20000
set_option linter.unusedSimpArgs false

theorem evs_drop (l : List Ent) (i : Nat) : (evs l).drop (i * 4) = evs (l.drop i) := by
  induction i generalizing l with
  | zero => rfl
  | succ i ih =>
    cases l with
    | nil => simp [evs]
    | cons y r =>
      have e : (i + 1) * 4 = 4 + i * 4 := by omega
      rw [e, ← List.drop_drop]
      exact ih r
theorem outE_cases (L : List Ent) : (L.length ≤ 16 ∧ outE L = (L, 0)) ∨ outE L = ([], 51) := by
  unfold outE
  by_cases h : L.length ≤ 16
  · exact .inl ⟨h, if_pos h⟩
  · exact .inr (if_neg h)
theorem pushF_head (x : Ent) (t : Int) (ls : List Int) (l : List Ent) (hx : x.ttl = t) : ∃ y, (pushF x t ls l)[0]? = some y ∧ y.ttl = t := by
  unfold pushF
  cases hf : freshL x.cls t ls with
  | nil => exact ⟨x, rfl, hx⟩
  | cons y r =>
    refine ⟨y, rfl, ?_⟩
    have hy : y ∈ freshL x.cls t ls := by rw [hf]; simp
    unfold freshL at hy
    simp at hy
    obtain ⟨a, _, rfl⟩ := hy
    rfl
theorem pushF_length (x : Ent) (t : Int) (ls : List Int) (y : Ent) (r : List Ent) : (pushF x t ls (y :: r)).length = ls.length + (r.length + 1) := by
  unfold pushF
  rw [List.length_append, freshL_length]
  rfl
theorem pushF_drop (x : Ent) (t : Int) (ls : List Int) (y : Ent) (r : List Ent) : (pushF x t ls (y :: r)).drop (ls.length + 1) = r := by
  unfold pushF
  rw [List.drop_append, freshL_length, List.drop_of_length_le (by rw [freshL_length]; omega)]
  simp
theorem fin_nil (x : Ent) (e : Int) (h : e ≠ 0) : finF x ([], e) = ([], (false, 0, 0), e) := by
  unfold finF
  rw [if_neg (fun hh => h hh.1)]
def OkB (l : List Ent) (m : Hp) : Prop := ∃ x r L y, l = x :: r ∧ (m.op = 0 ∨ m.op = 1) ∧ doF l m = (L, (false, 0, 0), 0) ∧ (m.op = 1 → L.length + 1 = l.length + m.ln) ∧ (m.op = 0 → L.length = l.length + m.ln) ∧ L.length ≤ 16 ∧ l.length ≤ L.length ∧ L[0]? = some y ∧ y.ttl = x.ttl - 1 ∧ L.drop (L.length - r.length) = r
def OkC (l : List Ent) (m : Hp) : Prop := ∃ x, l = [x] ∧ m.op = 2 ∧ doF l m = ([], (true, x.ttl, x.cls % 8), 0)
def OkD (l : List Ent) (m : Hp) : Prop := ∃ x e y r, l = x :: e :: r ∧ m.op = 2 ∧ doF l m = (y :: r, (false, 0, 0), 0) ∧ r.length + 1 ≤ 16 ∧ (m.pipe = true → y.ttl < e.ttl) ∧ (m.pipe = false → y.ttl < x.ttl)
theorem do_cases (l : List Ent) (m : Hp) (hm : m.l.length = m.ln) : (∃ e, e ≠ 0 ∧ doF l m = ([], (false, 0, 0), e)) ∨ OkB l m ∨ OkC l m ∨ OkD l m := by
  match l with
  | [] => exact .inl ⟨1, by decide, rfl⟩
  | x :: r =>
    have hd : doF (x :: r) m = if m.chk ≠ 0 ∨ m.op = 3 then ([], (false, 0, 0), 54) else if x.ttl < 2 then ([], (false, 0, 0), 56) else finF x (opF x (x :: r) m) := rfl
    by_cases h1 : m.chk ≠ 0 ∨ m.op = 3
    · exact .inl ⟨54, by decide, by rw [hd, if_pos h1]⟩
    · rw [if_neg h1] at hd
      by_cases h2 : x.ttl < 2
      · exact .inl ⟨56, by decide, by rw [hd, if_pos h2]⟩
      · rw [if_neg h2] at hd
        have hop := chk_op m (by by_cases h : m.chk = 0; exact h; exact absurd (.inl h) h1)
        have h3 : m.op ≠ 3 := fun h => h1 (.inr h)
        have hc : m.op = 0 ∨ m.op = 1 ∨ m.op = 2 := by omega
        have push : ∀ (x' : Ent) (ls : List Int), x'.ttl = x.ttl - 1 → opF x (x :: r) m = outE (pushF x' (x.ttl - 1) ls (x :: r)) → (m.op = 0 ∨ m.op = 1) → (m.op = 1 → ls.length + 1 = m.ln) → (m.op = 0 → ls.length = m.ln) → (∃ e, e ≠ 0 ∧ doF (x :: r) m = ([], (false, 0, 0), e)) ∨ OkB (x :: r) m := by
          intro x' ls hx' ho hop01 hl1 hl0
          have hlen := pushF_length x' (x.ttl - 1) ls x r
          have hdrop := pushF_drop x' (x.ttl - 1) ls x r
          obtain ⟨y, hy, hyt⟩ := pushF_head x' (x.ttl - 1) ls (x :: r) hx'
          rcases outE_cases (pushF x' (x.ttl - 1) ls (x :: r)) with ⟨h16, he⟩ | he
          · refine .inr ⟨x, r, _, y, rfl, hop01, ?_, ?_, ?_, h16, ?_, hy, hyt, ?_⟩
            · rw [hd, ho]
              exact fin_fit x _ (by omega) (by omega)
            · intro h; have := hl1 h; rw [hlen, List.length_cons]; omega
            · intro h; have := hl0 h; rw [hlen, List.length_cons]; omega
            · rw [hlen, List.length_cons]; omega
            · rw [hlen, show ls.length + (r.length + 1) - r.length = ls.length + 1 by omega]; exact hdrop
          · exact .inl ⟨51, by decide, by rw [hd, ho, he]; exact fin_nil x 51 (by decide)⟩
        rcases hc with h0 | h0 | h0
        · rcases push ⟨x.label, x.cls, x.bot, x.ttl - 1⟩ m.l rfl (by unfold opF; rw [if_pos h0]) (.inl h0) (by omega) (fun _ => hm) with h | h
          · exact .inl h
          · exact .inr (.inl h)
        · have hl1 := hop.2.2 h0
          rcases push ⟨m.l.headD 0, x.cls, x.bot, x.ttl - 1⟩ (m.l.drop 1) rfl (by unfold opF; rw [if_neg (by omega), if_pos h0]) (.inr h0) (fun _ => by rw [List.length_drop]; omega) (by omega) with h | h
          · exact .inl h
          · exact .inr (.inl h)
        · have ho : opF x (x :: r) m = popF (x :: r) m.pipe := by unfold opF; rw [if_neg (by omega), if_neg (by omega)]
          rw [ho] at hd
          match r, hd with
          | [], hd => exact .inr (.inr (.inl ⟨x, rfl, h0, by rw [hd]; rfl⟩))
          | e :: r, hd =>
            by_cases hu : underF x.ttl e.ttl m.pipe < 2
            · refine .inl ⟨56, by decide, ?_⟩
              rw [hd]
              have : popF (x :: e :: r) m.pipe = ([], 56) := by unfold popF belowF; simp [hu]
              rw [this]
              exact fin_nil x 56 (by decide)
            · have hp : popF (x :: e :: r) m.pipe = outE (⟨e.label, classF x.cls e.cls m.pipe, e.bot, underF x.ttl e.ttl m.pipe - 1⟩ :: r) := by unfold popF belowF; simp [hu]
              rw [hp] at hd
              rcases outE_cases (⟨e.label, classF x.cls e.cls m.pipe, e.bot, underF x.ttl e.ttl m.pipe - 1⟩ :: r) with ⟨h16, he⟩ | he
              · refine .inr (.inr (.inr ⟨x, e, ⟨e.label, classF x.cls e.cls m.pipe, e.bot, underF x.ttl e.ttl m.pipe - 1⟩, r, rfl, h0, ?_, by simpa using h16, ?_, ?_⟩))
                · rw [hd]; exact fin_fit x _ (by simp at h16 ⊢; omega) (by simp)
                · intro hpp; show underF x.ttl e.ttl m.pipe - 1 < e.ttl; rw [hpp]; unfold underF; simp; try omega
                · intro hpp; show underF x.ttl e.ttl m.pipe - 1 < x.ttl; rw [hpp]; unfold underF; simp; try omega
              · exact .inl ⟨51, by decide, by rw [hd, he]; exact fin_nil x 51 (by decide)⟩

set_option maxHeartbeats 4000000 in
theorem walk_RewriteOnly (w : World) (A : Option Addr) (n c : Nat) (l : List Ent) (h : Row w w.heap.size 4 A n (evs l)) (hc : n ≤ c) (hcm : c ≤ maxLen) (hwf : ∀ x ∈ l, x.wf) (m : Hp) (hm : m.ok w) :
    Calls Try.prog 5 #[.slice A n c, .agg m.cells.toArray] w fun e w' => e = .returned (.bool true) ∧ Below w.heap.size w w' := by
  have HF := Lib.hid (fun x hx => (hwf x hx).fitR)
  have HR := Lib.hid h
  have HM := Lib.hid hm
  have HLEN := Lib.hid (ent_len h)
  clear h hm hwf
  obtain ⟨gh, hgh⟩ : ∃ g, w.heap.size = g := ⟨_, rfl⟩
  have HGH := Lib.hid hgh
  go_enter Try.func5, Try.ntmps5
  go_upto_region 1 with (refine wpList_box_blk (by rfl) 25 _ rfl m.cells rfl ?_; intro w1 hbh hB1 hs1)
  rw [hgh] at hbh hB1
  try rw [hgh]
  go_wp2_with fail
  refine (awake20 _).mono ?_
  rintro e w2 ⟨rfl, hb2⟩
  have HH := Lib.hid (hbh.on hb2)
  have HW := Lib.hid (show Below w.heap.size w w2 by rw [hgh]; exact hB1.trans (hb2.mono (by omega)))
  clear hbh hB1 hs1 hb2
  have d1 : w2.cell? ⟨gh, 1, none⟩ = some (.slice m.lA m.ln m.lc) := HH.out.cell 1
  have d4 : w2.cell? ⟨gh, 4, none⟩ = some (.slice m.rA m.rn m.rc) := HH.out.cell 4
  clear hgh
  by_cases h1 : 40 < n
  · have h1i : (40 : Int) < (n : Int) := by omega
    go_wp2_with fail
    go_ret
    exact ⟨rfl, HW.out⟩
  · have h1i : ¬ (40 : Int) < (n : Int) := by omega
    by_cases h2 : 40 < m.ln
    · have h2i : (40 : Int) < (m.ln : Int) := by omega
      go_wp2_with fail
      go_ret
      exact ⟨rfl, HW.out⟩
    · have h2i : ¬ (40 : Int) < (m.ln : Int) := by omega
      by_cases h3 : 40 < m.rn
      · have h3i : (40 : Int) < (m.rn : Int) := by omega
        go_wp2_with fail
        go_ret
        exact ⟨rfl, HW.out⟩
      · have h3i : ¬ (40 : Int) < (m.rn : Int) := by omega
        go_upto_region 6 with fail
        clear h1i h2i h3i d1 d4
        have hml : m.l.length = m.ln := by have := HM.out.lrow.1; rw [nv_length] at this; omega
        have HDO := Lib.hid (fun W (hB : Below w.heap.size w W) => do_any A n c l m W ((HR.out.below hB).more hB.size) hc hcm (by omega) HF.out (hop_below HM.out hB))
        have hcases := do_cases l m hml
        clear hml
        have hh := HH.out
        rcases hcases with ⟨E, hE, hD⟩ | ⟨x, r, L, y, hl, hop, hD, hq1, hq0, h16, hnq, hy, hyt, hdr⟩ | ⟨x, hl, hop, hD⟩ | ⟨x, e, y, r, hl, hop, hD, h16, hp1, hp0⟩
        · have hE' : (E != 0) = true := by simpa [bne] using hE
          rw [hD] at HDO
          try dsimp only at HDO
          rw [show (([] : List Ent)).length = 0 from rfl] at HDO
          go_wp2_with (refine wpList_load_blk (by rfl) 25 _ rfl gh rfl 25 _ _ hh Try.underlying25 rfl (sizeHp m) ?_)
          refine (HDO.out w2 HW.out).mono ?_
          rintro e wa ⟨A1, c1, rfl, hown, hb⟩
          clear hh
          replace HW := Lib.hid (bthen HW.out hb)
          replace HH := Lib.hid (HH.out.on hb)
          have HO1 := Lib.hid hown
          clear hown hb HDO
          go_upto_region 7 with (first
            | (refine wpList_alloc_blk (by rfl) 28 rfl (leftC (false, 0, 0)) zeroLeft ?_; intro wb hbb hBb hsb)
            | (refine wpList_store_all (by rfl) 28 _ _ rfl wa.heap.size (leftC (false, 0, 0)) rfl rfl 28 _ hbb (sizeLeft _) rfl (oneLeft _) ?_; intro w3 hbc hgc hsc))
          have hbd : Below wa.heap.size wa w3 := bgrown hBb hgc hBb.size (Nat.le_refl _)
          replace HW := Lib.hid (bthen HW.out hbd)
          replace HH := Lib.hid (HH.out.on hbd)
          replace HO1 := Lib.hid (HO1.out.below hbd)
          obtain ⟨gl, hgl⟩ : ∃ g, wa.heap.size = g := ⟨_, rfl⟩
          rw [hgl] at hbc ⊢
          have HL := Lib.hid hbc
          clear hbb hBb hsb hbc hgc hsc hbd hgl
          have y0 : w3.cell? ⟨gl, 0, none⟩ = some (.bool false) := HL.out.cell 0
          have y1 : w3.cell? ⟨gl, 1, none⟩ = some (.int .u8 0) := HL.out.cell 1
          have y2 : w3.cell? ⟨gl, 2, none⟩ = some (.int .u8 0) := HL.out.cell 2
          have d0 : w3.cell? ⟨gh, 0, none⟩ = some (.int .i64 m.op) := HH.out.cell 0
          have d1 : w3.cell? ⟨gh, 1, none⟩ = some (.slice m.lA m.ln m.lc) := HH.out.cell 1
          have d5 : w3.cell? ⟨gh, 5, none⟩ = some (.bool m.pipe) := HH.out.cell 5
          go_wp2_with (refine wpList_value (by rfl) (exec_eqL _ _ _ (by rfl) (false, 0, 0) (by rfl) (by rfl)) ?_)
          go_ret
          exact ⟨rfl, HW.out⟩
        · obtain ⟨q, hqq⟩ : ∃ q, L.length = q := ⟨_, rfl⟩
          obtain ⟨o, ho⟩ : ∃ o, m.op = o := ⟨_, rfl⟩
          have hln := HLEN.out
          have hrl : r.length = n - 1 := by rw [← hln, hl]; simp
          have hn1 : 1 ≤ n := by rw [← hln, hl]; simp
          rw [hqq, hln, ho] at hq1 hq0
          rw [hqq] at h16 hnq
          rw [hln] at hnq
          rw [hqq, hrl] at hdr
          rw [ho] at hop
          subst hl
          have HO := Lib.hid ho
          rw [hD] at HDO
          try dsimp only at HDO
          simp only [hqq] at HDO
          go_wp2_with (refine wpList_load_blk (by rfl) 25 _ rfl gh rfl 25 _ _ hh Try.underlying25 rfl (sizeHp m) ?_)
          refine (HDO.out w2 HW.out).mono ?_
          rintro e wa ⟨A1, c1, rfl, hown, hb⟩
          clear hh
          replace HW := Lib.hid (bthen HW.out hb)
          replace HH := Lib.hid (HH.out.on hb)
          have HO1 := Lib.hid hown
          clear hown hb HDO
          go_upto_region 7 with (first
            | (refine wpList_alloc_blk (by rfl) 28 rfl (leftC (false, 0, 0)) zeroLeft ?_; intro wb hbb hBb hsb)
            | (refine wpList_store_all (by rfl) 28 _ _ rfl wa.heap.size (leftC (false, 0, 0)) rfl rfl 28 _ hbb (sizeLeft _) rfl (oneLeft _) ?_; intro w3 hbc hgc hsc))
          have hbd : Below wa.heap.size wa w3 := bgrown hBb hgc hBb.size (Nat.le_refl _)
          replace HW := Lib.hid (bthen HW.out hbd)
          replace HH := Lib.hid (HH.out.on hbd)
          replace HO1 := Lib.hid (HO1.out.below hbd)
          obtain ⟨gl, hgl⟩ : ∃ g, wa.heap.size = g := ⟨_, rfl⟩
          rw [hgl] at hbc ⊢
          have HL := Lib.hid hbc
          clear hbb hBb hsb hbc hgc hsc hbd hgl
          have y0 : w3.cell? ⟨gl, 0, none⟩ = some (.bool false) := HL.out.cell 0
          have y1 : w3.cell? ⟨gl, 1, none⟩ = some (.int .u8 0) := HL.out.cell 1
          have y2 : w3.cell? ⟨gl, 2, none⟩ = some (.int .u8 0) := HL.out.cell 2
          have d0 : w3.cell? ⟨gh, 0, none⟩ = some (.int .i64 m.op) := HH.out.cell 0
          have d1 : w3.cell? ⟨gh, 1, none⟩ = some (.slice m.lA m.ln m.lc) := HH.out.cell 1
          have d5 : w3.cell? ⟨gh, 5, none⟩ = some (.bool m.pipe) := HH.out.cell 5
          obtain ⟨g1, rfl, hgb, hgs, hcell, _⟩ := HO1.out.open_ (by omega)
          have HHC := Lib.hid (hcell 3 (.int .u8 y.ttl) ((evs_cell L 0 y hy 3 (by omega)).trans rfl))
          obtain ⟨b, ob, hA, hbl, q0, q1, q2, q3⟩ := ent_row (HR.out.below HW.out) 0 x (by first | rfl | simp)
          subst hA
          obtain ⟨s, hs⟩ : ∃ s, s = n - 1 := ⟨_, rfl⟩
          obtain ⟨i, hi⟩ : ∃ i, i = q - s := ⟨_, rfl⟩
          obtain ⟨j, hj⟩ : ∃ j, j = 1 := ⟨_, rfl⟩
          have HDR := Lib.hid (show (evs L).drop (i * 4) = evs r by rw [hi, hs, ← hdr]; exact evs_drop L _)
          have hle1 := HO1.out.le
          have hcap1 := HO1.out.cap
          have hca := HO1.out.row.cut (k := i) (cap := c1) (by omega) hle1
          have hcb := (HR.out.below HW.out).cut (k := j) (cap := c) (by omega) hc
          rw [addr_addR] at hca hcb
          rw [show q - i = s by omega] at hca
          rw [show n - j = s by omega] at hcb
          rw [HDR.out] at hca
          have HCA := Lib.hid hca
          have HCB := Lib.hid (show Row w3 w3.heap.size 4 (if c = j then some ⟨b, ob, none⟩ else some ⟨b, ob + j * 4, none⟩) s (evs r) by rw [show (evs (x :: r)).drop (j * 4) = evs r by rw [hj]; rfl] at hcb; exact hcb.more HW.out.size)
          have HX3 := Lib.hid q3
          have HYT := Lib.hid hyt
          have HJ := Lib.hid hj
          have HI := Lib.hid hi
          have HSS := Lib.hid hs
          have HQ10 := Lib.hid (And.intro hq1 hq0)
          have hqpos : ((q : Int) == 0) = false := by simp; omega
          have h16i : ¬ (16 : Int) < (q : Int) := by omega
          have h1s : i + s = q := by omega
          have h2s : j + s = n := by omega
          clear hca hcb hcell hdr hD hy hyt hj hi hs hq1 hq0 hqq hln ho q0 q1 q2 q3
          rcases hop with rfl | rfl
          · rw [HO.out] at d0
            go_upto_region 14 with fail
            rw [show (n : Int) + (m.ln : Int) = (q : Int) by have := HQ10.out.2 rfl; omega]
            have hmin : (n : Int) - 1 < (q : Int) := by omega
            go_upto_region 19 with fail
            rw [show (n : Int) - 1 = (s : Int) by have := HSS.out; omega]
            have x3 := HX3.out
            have z3 : w3.cell? ⟨g1, 3, none⟩ = some (.int .u8 y.ttl) := HHC.out
            have hcmp : ¬ x.ttl ≤ y.ttl := by have := HYT.out; omega
            go_upto_region 23 with fail
            go_quiet (fail)
            clear x3 z3 hcmp hmin y0 y1 y2 d0 d1 d5
            go_wp2_with fail
            refine wp_region_rel (fun A B => A.grownBy B none) (fun A => grown_refl A _) (fun A B C h k => grown_trans h k) (relAt (List.cons (fun v _ => v = .slice (some ⟨g1, 0, none⟩) q c1) (List.cons (fun v _ => v = .int .i64 (q : Int)) (List.cons (fun v _ => v = .int .i64 (s : Int)) (List.cons (fun v _ => v = .int .i64 (i : Int)) (List.cons (fun v W => ∃ X d, v = .slice X s d ∧ Row W W.heap.size 4 X s (evs (r))) (List.cons (fun v _ => v = .slice (some ⟨b, ob, none⟩) n c) (List.cons (fun v _ => v = .slice (some ⟨b, ob, none⟩) n c) (List.cons (fun v _ => v = .int .i64 (n : Int)) (List.cons (fun v _ => v = .int .i64 (s : Int)) (List.cons (fun v _ => v = .int .i64 (j : Int)) (List.cons (fun v W => ∃ X d, v = .slice X s d ∧ Row W W.heap.size 4 X s (evs (r))) (List.cons (fun v _ => v = .bool true) (List.cons (fun v _ => v = .bool true) ([]))))))))))))))) (MonoL.at_ (.cons (mono_val _) (.cons (mono_val _) (.cons (mono_val _) (.cons (mono_val _) (.cons (fun _ _ _ ⟨X, d, hv, h⟩ hg => ⟨X, d, hv, (h.below (grow_below hg)).more hg.size⟩) (.cons (mono_val _) (.cons (mono_val _) (.cons (mono_val _) (.cons (mono_val _) (.cons (mono_val _) (.cons (fun _ _ _ ⟨X, d, hv, h⟩ hg => ⟨X, d, hv, (h.below (grow_below hg)).more hg.size⟩) (.cons (mono_val _) (.cons (mono_val _) .nil)))))))))))))) (by kernel_rfl) (by kernel_rfl) ⟨?_, ?_, ?_, ?_, ?_, ?_, ?_, ?_, ?_, ?_, ?_, ?_, ?_, trivial⟩ ?_
            · intro a vs W hX hR he hf K hK
              rw [if_pos (wanted_none rfl)]
              have e6 : a.eval (.tmp 6) = .slice (some ⟨g1, 0, none⟩) q c1 := hf 6 (by kernel_rfl)
              refine wp_value (v := .slice (some ⟨g1, 0, none⟩) q c1) ?_ (hK _ _ rfl (grown_refl W _))
              simp only [execOp, e6]
              try go_simp
              try (first | rfl | omega | (simp only [IntKind.wrap_i64, IntKind.wrap_u8, IntKind.wrap_u64, IntKind.wrap_u16, IntKind.wrap_u32]; omega) | (rw [Int.tmod_eq_emod_of_nonneg (by omega)]) | (rw [Int.tmod_eq_emod_of_nonneg (by omega)]; omega))
            · intro a vs W hX hR he hf K hK
              rw [if_pos (wanted_none rfl)]
              have e9 : a.eval (.tmp 9) = .int .i64 (q : Int) := hf 9 (by kernel_rfl)
              refine wp_value (v := .int .i64 (q : Int)) ?_ (hK _ _ rfl (grown_refl W _))
              simp only [execOp, e9]
              try go_simp
              try (first | rfl | omega | (simp only [IntKind.wrap_i64, IntKind.wrap_u8, IntKind.wrap_u64, IntKind.wrap_u16, IntKind.wrap_u32]; omega) | (rw [Int.tmod_eq_emod_of_nonneg (by omega)]) | (rw [Int.tmod_eq_emod_of_nonneg (by omega)]; omega))
            · intro a vs W hX hR he hf K hK
              rw [if_pos (wanted_none rfl)]
              have e10 : a.eval (.tmp 10) = .int .i64 (s : Int) := hf 10 (by kernel_rfl)
              refine wp_value (v := .int .i64 (s : Int)) ?_ (hK _ _ rfl (grown_refl W _))
              simp only [execOp, e10]
              try go_simp
              try (first | rfl | omega | (simp only [IntKind.wrap_i64, IntKind.wrap_u8, IntKind.wrap_u64, IntKind.wrap_u16, IntKind.wrap_u32]; omega) | (rw [Int.tmod_eq_emod_of_nonneg (by omega)]) | (rw [Int.tmod_eq_emod_of_nonneg (by omega)]; omega))
            · intro a vs W hX hR he hf K hK
              rw [if_pos (wanted_none rfl)]
              have e130 : a.eval (.tmp 130) = .int .i64 (q : Int) := (he 1 130 (by kernel_rfl) rfl).trans (hR 1 (by kernel_rfl))
              have e131 : a.eval (.tmp 131) = .int .i64 (s : Int) := (he 2 131 (by kernel_rfl) rfl).trans (hR 2 (by kernel_rfl))
              have hsub : (q : Int) - (s : Int) = (i : Int) := by omega
              refine wp_value (v := _) ?_ (hK _ _ rfl (grown_refl W _))
              simp only [execOp, e130, e131]
              go_simp
              first | done | (simp only [IntKind.wrap_i64]; omega)
            · intro a vs W hX hR he hf K hK
              rw [if_pos (wanted_none rfl)]
              have e129 : a.eval (.tmp 129) = .slice (some ⟨g1, 0, none⟩) q c1 := (he 0 129 (by kernel_rfl) rfl).trans (hR 0 (by kernel_rfl))
              have e132 : a.eval (.tmp 132) = .int .i64 (i : Int) := (he 3 132 (by kernel_rfl) rfl).trans (hR 3 (by kernel_rfl))
              have f129 := e129
              simp only [Act.eval, Array.getD_eq_getD_getElem?] at f129
              have f132 := e132
              simp only [Act.eval, Array.getD_eq_getD_getElem?] at f132
              have hbW := bthen (below_drew _) (grow_below hX)
              have k1 : ¬ (q : Int) < (i : Int) := by omega
              have k2 : ¬ (c1 : Int) < (q : Int) := by omega
              have k3 : (i : Int) ≤ (q : Int) := by omega
              refine wp_value (v := .slice (if c1 = i then some ⟨g1, 0, none⟩ else some ⟨g1, 0 + i * 4, none⟩) s (c1 - i)) ?_ (hK _ _ ⟨_, _, rfl, ((HCA.out.drewN nq).below hbW).more hbW.size⟩ (grown_refl W _))
              simp only [execOp, e129, e132]
              go_simp
              first | done | omega
            · intro a vs W hX hR he hf K hK
              rw [if_pos (wanted_none rfl)]
              have e0 : a.eval (.tmp 0) = .slice (some ⟨b, ob, none⟩) n c := hf 0 (by kernel_rfl)
              refine wp_value (v := .slice (some ⟨b, ob, none⟩) n c) ?_ (hK _ _ rfl (grown_refl W _))
              simp only [execOp, e0]
              try go_simp
              try (first | rfl | omega | (simp only [IntKind.wrap_i64, IntKind.wrap_u8, IntKind.wrap_u64, IntKind.wrap_u16, IntKind.wrap_u32]; omega) | (rw [Int.tmod_eq_emod_of_nonneg (by omega)]) | (rw [Int.tmod_eq_emod_of_nonneg (by omega)]; omega))
            · intro a vs W hX hR he hf K hK
              rw [if_pos (wanted_none rfl)]
              have e0 : a.eval (.tmp 0) = .slice (some ⟨b, ob, none⟩) n c := hf 0 (by kernel_rfl)
              refine wp_value (v := .slice (some ⟨b, ob, none⟩) n c) ?_ (hK _ _ rfl (grown_refl W _))
              simp only [execOp, e0]
              try go_simp
              try (first | rfl | omega | (simp only [IntKind.wrap_i64, IntKind.wrap_u8, IntKind.wrap_u64, IntKind.wrap_u16, IntKind.wrap_u32]; omega) | (rw [Int.tmod_eq_emod_of_nonneg (by omega)]) | (rw [Int.tmod_eq_emod_of_nonneg (by omega)]; omega))
            · intro a vs W hX hR he hf K hK
              rw [if_pos (wanted_none rfl)]
              have e135 : a.eval (.tmp 135) = .slice (some ⟨b, ob, none⟩) n c := (he 6 135 (by kernel_rfl) rfl).trans (hR 6 (by kernel_rfl))
              have f135 := e135
              simp only [Act.eval, Array.getD_eq_getD_getElem?] at f135
              refine wp_value (v := .int .i64 (n : Int)) ?_ (hK _ _ rfl (grown_refl W _))
              simp only [execOp, e135]
              try go_simp
              try (first | rfl | omega | (simp only [IntKind.wrap_i64, IntKind.wrap_u8, IntKind.wrap_u64, IntKind.wrap_u16, IntKind.wrap_u32]; omega) | (rw [Int.tmod_eq_emod_of_nonneg (by omega)]) | (rw [Int.tmod_eq_emod_of_nonneg (by omega)]; omega))
            · intro a vs W hX hR he hf K hK
              rw [if_pos (wanted_none rfl)]
              have e10 : a.eval (.tmp 10) = .int .i64 (s : Int) := hf 10 (by kernel_rfl)
              refine wp_value (v := .int .i64 (s : Int)) ?_ (hK _ _ rfl (grown_refl W _))
              simp only [execOp, e10]
              try go_simp
              try (first | rfl | omega | (simp only [IntKind.wrap_i64, IntKind.wrap_u8, IntKind.wrap_u64, IntKind.wrap_u16, IntKind.wrap_u32]; omega) | (rw [Int.tmod_eq_emod_of_nonneg (by omega)]) | (rw [Int.tmod_eq_emod_of_nonneg (by omega)]; omega))
            · intro a vs W hX hR he hf K hK
              rw [if_pos (wanted_none rfl)]
              have e136 : a.eval (.tmp 136) = .int .i64 (n : Int) := (he 7 136 (by kernel_rfl) rfl).trans (hR 7 (by kernel_rfl))
              have e137 : a.eval (.tmp 137) = .int .i64 (s : Int) := (he 8 137 (by kernel_rfl) rfl).trans (hR 8 (by kernel_rfl))
              have hsub : (n : Int) - (s : Int) = (j : Int) := by omega
              refine wp_value (v := _) ?_ (hK _ _ rfl (grown_refl W _))
              simp only [execOp, e136, e137]
              go_simp
              first | done | (simp only [IntKind.wrap_i64]; omega)
            · intro a vs W hX hR he hf K hK
              rw [if_pos (wanted_none rfl)]
              have e134 : a.eval (.tmp 134) = .slice (some ⟨b, ob, none⟩) n c := (he 5 134 (by kernel_rfl) rfl).trans (hR 5 (by kernel_rfl))
              have e138 : a.eval (.tmp 138) = .int .i64 (j : Int) := (he 9 138 (by kernel_rfl) rfl).trans (hR 9 (by kernel_rfl))
              have f134 := e134
              simp only [Act.eval, Array.getD_eq_getD_getElem?] at f134
              have f138 := e138
              simp only [Act.eval, Array.getD_eq_getD_getElem?] at f138
              have hbW := bthen (below_drew _) (grow_below hX)
              have k1 : ¬ (n : Int) < (j : Int) := by omega
              have k2 : ¬ (c : Int) < (n : Int) := by omega
              have k3 : (j : Int) ≤ (n : Int) := by omega
              refine wp_value (v := .slice (if c = j then some ⟨b, ob, none⟩ else some ⟨b, ob + j * 4, none⟩) s (c - j)) ?_ (hK _ _ ⟨_, _, rfl, ((HCB.out.drewN nq).below hbW).more hbW.size⟩ (grown_refl W _))
              simp only [execOp, e134, e138]
              go_simp
              first | done | omega
            · intro a vs W hX hR he hf K hK
              rw [if_pos (wanted_none rfl)]
              have e133 := he 4 133 (by kernel_rfl) rfl
              have p133 := hR 4 (by kernel_rfl)
              change (fun v W => ∃ X d, v = .slice X s d ∧ Row W W.heap.size 4 X s (evs (r))) (vs 4) W at p133
              have e139 := he 10 139 (by kernel_rfl) rfl
              have p139 := hR 10 (by kernel_rfl)
              change (fun v W => ∃ X d, v = .slice X s d ∧ Row W W.heap.size 4 X s (evs (r))) (vs 10) W at p139
              have hbW := bthen (below_drew _) (grow_below hX)
              obtain ⟨X1, z1, hv1, hr1⟩ := p133
              obtain ⟨X2, z2, hv2, hr2⟩ := p139
              rw [hv1] at e133
              rw [hv2] at e139
              refine wp_enter (f := 12) (args := #[.slice X1 s z1, .slice X2 s z2]) (by simp only [execOp, e133, e139]; go_simp; exact ⟨by simpa [Act.eval] using e133, by simpa [Act.eval] using e139⟩) ((exact_same X1 X2 s z1 z2 (r) W _ hr1 hr2 (by omega)).mono ?_)
              rintro q' w' ⟨rfl, hb⟩
              exact ⟨_, rfl, hK _ _ rfl (below_grow hb _)⟩
            · intro a vs W hX hR he hf K hK
              rw [if_pos (wanted_none rfl)]
              have e140 : a.eval (.tmp 140) = .bool true := (he 11 140 (by kernel_rfl) rfl).trans (hR 11 (by kernel_rfl))
              refine wp_value (v := .bool true) ?_ (hK _ _ rfl (grown_refl W _))
              simp only [execOp, e140]
              try go_simp
              try (first | rfl | omega | (simp only [IntKind.wrap_i64, IntKind.wrap_u8, IntKind.wrap_u64, IntKind.wrap_u16, IntKind.wrap_u32]; omega) | (rw [Int.tmod_eq_emod_of_nonneg (by omega)]) | (rw [Int.tmod_eq_emod_of_nonneg (by omega)]; omega))
            · intro vs w9 hX9 hR
              have q0 := hR 0 (by decide)
              have q1 := hR 1 (by decide)
              have q2 := hR 2 (by decide)
              have q3 := hR 3 (by decide)
              have q4 := hR 4 (by decide)
              have q5 := hR 5 (by decide)
              have q6 := hR 6 (by decide)
              have q7 := hR 7 (by decide)
              have q8 := hR 8 (by decide)
              have q9 := hR 9 (by decide)
              have q10 := hR 10 (by decide)
              have q11 := hR 11 (by decide)
              have q12 := hR 12 (by decide)
              change vs 0 = .slice (some ⟨g1, 0, none⟩) q c1 at q0
              change vs 1 = .int .i64 (q : Int) at q1
              change vs 2 = .int .i64 (s : Int) at q2
              change vs 3 = .int .i64 (i : Int) at q3
              change (fun v W => ∃ X d, v = .slice X s d ∧ Row W W.heap.size 4 X s (evs (r))) (vs 4) w9 at q4
              change vs 5 = .slice (some ⟨b, ob, none⟩) n c at q5
              change vs 6 = .slice (some ⟨b, ob, none⟩) n c at q6
              change vs 7 = .int .i64 (n : Int) at q7
              change vs 8 = .int .i64 (s : Int) at q8
              change vs 9 = .int .i64 (j : Int) at q9
              change (fun v W => ∃ X d, v = .slice X s d ∧ Row W W.heap.size 4 X s (evs (r))) (vs 10) w9 at q10
              change vs 11 = .bool true at q11
              change vs 12 = .bool true at q12
              simp only [putAll, Act.put, List.setIfInBounds_toArray, List.set_cons_zero, List.set_cons_succ, q0, q1, q2, q3, q5, q6, q7, q8, q9, q11, q12]
              clear q0 q1 q2 q3 q5 q6 q7 q8 q9 q11 q12
              clear hR
              go_wp2_with fail
              go_ret
              exact ⟨rfl, bthen (below_drewN HW.out nq) (bthen (below_drew _) (grow_below hX9))⟩
          · rw [HO.out] at d0
            go_upto_region 14 with fail
            rw [show (n : Int) + (m.ln : Int) - 1 = (q : Int) by have := HQ10.out.1 rfl; omega]
            have hmin : (n : Int) - 1 < (q : Int) := by omega
            go_upto_region 19 with fail
            rw [show (n : Int) - 1 = (s : Int) by have := HSS.out; omega]
            have x3 := HX3.out
            have z3 : w3.cell? ⟨g1, 3, none⟩ = some (.int .u8 y.ttl) := HHC.out
            have hcmp : ¬ x.ttl ≤ y.ttl := by have := HYT.out; omega
            go_upto_region 23 with fail
            go_quiet (fail)
            clear x3 z3 hcmp hmin y0 y1 y2 d0 d1 d5
            go_wp2_with fail
            refine wp_region_rel (fun A B => A.grownBy B none) (fun A => grown_refl A _) (fun A B C h k => grown_trans h k) (relAt (List.cons (fun v _ => v = .slice (some ⟨g1, 0, none⟩) q c1) (List.cons (fun v _ => v = .int .i64 (q : Int)) (List.cons (fun v _ => v = .int .i64 (s : Int)) (List.cons (fun v _ => v = .int .i64 (i : Int)) (List.cons (fun v W => ∃ X d, v = .slice X s d ∧ Row W W.heap.size 4 X s (evs (r))) (List.cons (fun v _ => v = .slice (some ⟨b, ob, none⟩) n c) (List.cons (fun v _ => v = .slice (some ⟨b, ob, none⟩) n c) (List.cons (fun v _ => v = .int .i64 (n : Int)) (List.cons (fun v _ => v = .int .i64 (s : Int)) (List.cons (fun v _ => v = .int .i64 (j : Int)) (List.cons (fun v W => ∃ X d, v = .slice X s d ∧ Row W W.heap.size 4 X s (evs (r))) (List.cons (fun v _ => v = .bool true) (List.cons (fun v _ => v = .bool true) ([]))))))))))))))) (MonoL.at_ (.cons (mono_val _) (.cons (mono_val _) (.cons (mono_val _) (.cons (mono_val _) (.cons (fun _ _ _ ⟨X, d, hv, h⟩ hg => ⟨X, d, hv, (h.below (grow_below hg)).more hg.size⟩) (.cons (mono_val _) (.cons (mono_val _) (.cons (mono_val _) (.cons (mono_val _) (.cons (mono_val _) (.cons (fun _ _ _ ⟨X, d, hv, h⟩ hg => ⟨X, d, hv, (h.below (grow_below hg)).more hg.size⟩) (.cons (mono_val _) (.cons (mono_val _) .nil)))))))))))))) (by kernel_rfl) (by kernel_rfl) ⟨?_, ?_, ?_, ?_, ?_, ?_, ?_, ?_, ?_, ?_, ?_, ?_, ?_, trivial⟩ ?_
            · intro a vs W hX hR he hf K hK
              rw [if_pos (wanted_none rfl)]
              have e6 : a.eval (.tmp 6) = .slice (some ⟨g1, 0, none⟩) q c1 := hf 6 (by kernel_rfl)
              refine wp_value (v := .slice (some ⟨g1, 0, none⟩) q c1) ?_ (hK _ _ rfl (grown_refl W _))
              simp only [execOp, e6]
              try go_simp
              try (first | rfl | omega | (simp only [IntKind.wrap_i64, IntKind.wrap_u8, IntKind.wrap_u64, IntKind.wrap_u16, IntKind.wrap_u32]; omega) | (rw [Int.tmod_eq_emod_of_nonneg (by omega)]) | (rw [Int.tmod_eq_emod_of_nonneg (by omega)]; omega))
            · intro a vs W hX hR he hf K hK
              rw [if_pos (wanted_none rfl)]
              have e9 : a.eval (.tmp 9) = .int .i64 (q : Int) := hf 9 (by kernel_rfl)
              refine wp_value (v := .int .i64 (q : Int)) ?_ (hK _ _ rfl (grown_refl W _))
              simp only [execOp, e9]
              try go_simp
              try (first | rfl | omega | (simp only [IntKind.wrap_i64, IntKind.wrap_u8, IntKind.wrap_u64, IntKind.wrap_u16, IntKind.wrap_u32]; omega) | (rw [Int.tmod_eq_emod_of_nonneg (by omega)]) | (rw [Int.tmod_eq_emod_of_nonneg (by omega)]; omega))
            · intro a vs W hX hR he hf K hK
              rw [if_pos (wanted_none rfl)]
              have e10 : a.eval (.tmp 10) = .int .i64 (s : Int) := hf 10 (by kernel_rfl)
              refine wp_value (v := .int .i64 (s : Int)) ?_ (hK _ _ rfl (grown_refl W _))
              simp only [execOp, e10]
              try go_simp
              try (first | rfl | omega | (simp only [IntKind.wrap_i64, IntKind.wrap_u8, IntKind.wrap_u64, IntKind.wrap_u16, IntKind.wrap_u32]; omega) | (rw [Int.tmod_eq_emod_of_nonneg (by omega)]) | (rw [Int.tmod_eq_emod_of_nonneg (by omega)]; omega))
            · intro a vs W hX hR he hf K hK
              rw [if_pos (wanted_none rfl)]
              have e130 : a.eval (.tmp 130) = .int .i64 (q : Int) := (he 1 130 (by kernel_rfl) rfl).trans (hR 1 (by kernel_rfl))
              have e131 : a.eval (.tmp 131) = .int .i64 (s : Int) := (he 2 131 (by kernel_rfl) rfl).trans (hR 2 (by kernel_rfl))
              have hsub : (q : Int) - (s : Int) = (i : Int) := by omega
              refine wp_value (v := _) ?_ (hK _ _ rfl (grown_refl W _))
              simp only [execOp, e130, e131]
              go_simp
              first | done | (simp only [IntKind.wrap_i64]; omega)
            · intro a vs W hX hR he hf K hK
              rw [if_pos (wanted_none rfl)]
              have e129 : a.eval (.tmp 129) = .slice (some ⟨g1, 0, none⟩) q c1 := (he 0 129 (by kernel_rfl) rfl).trans (hR 0 (by kernel_rfl))
              have e132 : a.eval (.tmp 132) = .int .i64 (i : Int) := (he 3 132 (by kernel_rfl) rfl).trans (hR 3 (by kernel_rfl))
              have f129 := e129
              simp only [Act.eval, Array.getD_eq_getD_getElem?] at f129
              have f132 := e132
              simp only [Act.eval, Array.getD_eq_getD_getElem?] at f132
              have hbW := bthen (below_drew _) (grow_below hX)
              have k1 : ¬ (q : Int) < (i : Int) := by omega
              have k2 : ¬ (c1 : Int) < (q : Int) := by omega
              have k3 : (i : Int) ≤ (q : Int) := by omega
              refine wp_value (v := .slice (if c1 = i then some ⟨g1, 0, none⟩ else some ⟨g1, 0 + i * 4, none⟩) s (c1 - i)) ?_ (hK _ _ ⟨_, _, rfl, ((HCA.out.drewN nq).below hbW).more hbW.size⟩ (grown_refl W _))
              simp only [execOp, e129, e132]
              go_simp
              first | done | omega
            · intro a vs W hX hR he hf K hK
              rw [if_pos (wanted_none rfl)]
              have e0 : a.eval (.tmp 0) = .slice (some ⟨b, ob, none⟩) n c := hf 0 (by kernel_rfl)
              refine wp_value (v := .slice (some ⟨b, ob, none⟩) n c) ?_ (hK _ _ rfl (grown_refl W _))
              simp only [execOp, e0]
              try go_simp
              try (first | rfl | omega | (simp only [IntKind.wrap_i64, IntKind.wrap_u8, IntKind.wrap_u64, IntKind.wrap_u16, IntKind.wrap_u32]; omega) | (rw [Int.tmod_eq_emod_of_nonneg (by omega)]) | (rw [Int.tmod_eq_emod_of_nonneg (by omega)]; omega))
            · intro a vs W hX hR he hf K hK
              rw [if_pos (wanted_none rfl)]
              have e0 : a.eval (.tmp 0) = .slice (some ⟨b, ob, none⟩) n c := hf 0 (by kernel_rfl)
              refine wp_value (v := .slice (some ⟨b, ob, none⟩) n c) ?_ (hK _ _ rfl (grown_refl W _))
              simp only [execOp, e0]
              try go_simp
              try (first | rfl | omega | (simp only [IntKind.wrap_i64, IntKind.wrap_u8, IntKind.wrap_u64, IntKind.wrap_u16, IntKind.wrap_u32]; omega) | (rw [Int.tmod_eq_emod_of_nonneg (by omega)]) | (rw [Int.tmod_eq_emod_of_nonneg (by omega)]; omega))
            · intro a vs W hX hR he hf K hK
              rw [if_pos (wanted_none rfl)]
              have e135 : a.eval (.tmp 135) = .slice (some ⟨b, ob, none⟩) n c := (he 6 135 (by kernel_rfl) rfl).trans (hR 6 (by kernel_rfl))
              have f135 := e135
              simp only [Act.eval, Array.getD_eq_getD_getElem?] at f135
              refine wp_value (v := .int .i64 (n : Int)) ?_ (hK _ _ rfl (grown_refl W _))
              simp only [execOp, e135]
              try go_simp
              try (first | rfl | omega | (simp only [IntKind.wrap_i64, IntKind.wrap_u8, IntKind.wrap_u64, IntKind.wrap_u16, IntKind.wrap_u32]; omega) | (rw [Int.tmod_eq_emod_of_nonneg (by omega)]) | (rw [Int.tmod_eq_emod_of_nonneg (by omega)]; omega))
            · intro a vs W hX hR he hf K hK
              rw [if_pos (wanted_none rfl)]
              have e10 : a.eval (.tmp 10) = .int .i64 (s : Int) := hf 10 (by kernel_rfl)
              refine wp_value (v := .int .i64 (s : Int)) ?_ (hK _ _ rfl (grown_refl W _))
              simp only [execOp, e10]
              try go_simp
              try (first | rfl | omega | (simp only [IntKind.wrap_i64, IntKind.wrap_u8, IntKind.wrap_u64, IntKind.wrap_u16, IntKind.wrap_u32]; omega) | (rw [Int.tmod_eq_emod_of_nonneg (by omega)]) | (rw [Int.tmod_eq_emod_of_nonneg (by omega)]; omega))
            · intro a vs W hX hR he hf K hK
              rw [if_pos (wanted_none rfl)]
              have e136 : a.eval (.tmp 136) = .int .i64 (n : Int) := (he 7 136 (by kernel_rfl) rfl).trans (hR 7 (by kernel_rfl))
              have e137 : a.eval (.tmp 137) = .int .i64 (s : Int) := (he 8 137 (by kernel_rfl) rfl).trans (hR 8 (by kernel_rfl))
              have hsub : (n : Int) - (s : Int) = (j : Int) := by omega
              refine wp_value (v := _) ?_ (hK _ _ rfl (grown_refl W _))
              simp only [execOp, e136, e137]
              go_simp
              first | done | (simp only [IntKind.wrap_i64]; omega)
            · intro a vs W hX hR he hf K hK
              rw [if_pos (wanted_none rfl)]
              have e134 : a.eval (.tmp 134) = .slice (some ⟨b, ob, none⟩) n c := (he 5 134 (by kernel_rfl) rfl).trans (hR 5 (by kernel_rfl))
              have e138 : a.eval (.tmp 138) = .int .i64 (j : Int) := (he 9 138 (by kernel_rfl) rfl).trans (hR 9 (by kernel_rfl))
              have f134 := e134
              simp only [Act.eval, Array.getD_eq_getD_getElem?] at f134
              have f138 := e138
              simp only [Act.eval, Array.getD_eq_getD_getElem?] at f138
              have hbW := bthen (below_drew _) (grow_below hX)
              have k1 : ¬ (n : Int) < (j : Int) := by omega
              have k2 : ¬ (c : Int) < (n : Int) := by omega
              have k3 : (j : Int) ≤ (n : Int) := by omega
              refine wp_value (v := .slice (if c = j then some ⟨b, ob, none⟩ else some ⟨b, ob + j * 4, none⟩) s (c - j)) ?_ (hK _ _ ⟨_, _, rfl, ((HCB.out.drewN nq).below hbW).more hbW.size⟩ (grown_refl W _))
              simp only [execOp, e134, e138]
              go_simp
              first | done | omega
            · intro a vs W hX hR he hf K hK
              rw [if_pos (wanted_none rfl)]
              have e133 := he 4 133 (by kernel_rfl) rfl
              have p133 := hR 4 (by kernel_rfl)
              change (fun v W => ∃ X d, v = .slice X s d ∧ Row W W.heap.size 4 X s (evs (r))) (vs 4) W at p133
              have e139 := he 10 139 (by kernel_rfl) rfl
              have p139 := hR 10 (by kernel_rfl)
              change (fun v W => ∃ X d, v = .slice X s d ∧ Row W W.heap.size 4 X s (evs (r))) (vs 10) W at p139
              have hbW := bthen (below_drew _) (grow_below hX)
              obtain ⟨X1, z1, hv1, hr1⟩ := p133
              obtain ⟨X2, z2, hv2, hr2⟩ := p139
              rw [hv1] at e133
              rw [hv2] at e139
              refine wp_enter (f := 12) (args := #[.slice X1 s z1, .slice X2 s z2]) (by simp only [execOp, e133, e139]; go_simp; exact ⟨by simpa [Act.eval] using e133, by simpa [Act.eval] using e139⟩) ((exact_same X1 X2 s z1 z2 (r) W _ hr1 hr2 (by omega)).mono ?_)
              rintro q' w' ⟨rfl, hb⟩
              exact ⟨_, rfl, hK _ _ rfl (below_grow hb _)⟩
            · intro a vs W hX hR he hf K hK
              rw [if_pos (wanted_none rfl)]
              have e140 : a.eval (.tmp 140) = .bool true := (he 11 140 (by kernel_rfl) rfl).trans (hR 11 (by kernel_rfl))
              refine wp_value (v := .bool true) ?_ (hK _ _ rfl (grown_refl W _))
              simp only [execOp, e140]
              try go_simp
              try (first | rfl | omega | (simp only [IntKind.wrap_i64, IntKind.wrap_u8, IntKind.wrap_u64, IntKind.wrap_u16, IntKind.wrap_u32]; omega) | (rw [Int.tmod_eq_emod_of_nonneg (by omega)]) | (rw [Int.tmod_eq_emod_of_nonneg (by omega)]; omega))
            · intro vs w9 hX9 hR
              have q0 := hR 0 (by decide)
              have q1 := hR 1 (by decide)
              have q2 := hR 2 (by decide)
              have q3 := hR 3 (by decide)
              have q4 := hR 4 (by decide)
              have q5 := hR 5 (by decide)
              have q6 := hR 6 (by decide)
              have q7 := hR 7 (by decide)
              have q8 := hR 8 (by decide)
              have q9 := hR 9 (by decide)
              have q10 := hR 10 (by decide)
              have q11 := hR 11 (by decide)
              have q12 := hR 12 (by decide)
              change vs 0 = .slice (some ⟨g1, 0, none⟩) q c1 at q0
              change vs 1 = .int .i64 (q : Int) at q1
              change vs 2 = .int .i64 (s : Int) at q2
              change vs 3 = .int .i64 (i : Int) at q3
              change (fun v W => ∃ X d, v = .slice X s d ∧ Row W W.heap.size 4 X s (evs (r))) (vs 4) w9 at q4
              change vs 5 = .slice (some ⟨b, ob, none⟩) n c at q5
              change vs 6 = .slice (some ⟨b, ob, none⟩) n c at q6
              change vs 7 = .int .i64 (n : Int) at q7
              change vs 8 = .int .i64 (s : Int) at q8
              change vs 9 = .int .i64 (j : Int) at q9
              change (fun v W => ∃ X d, v = .slice X s d ∧ Row W W.heap.size 4 X s (evs (r))) (vs 10) w9 at q10
              change vs 11 = .bool true at q11
              change vs 12 = .bool true at q12
              simp only [putAll, Act.put, List.setIfInBounds_toArray, List.set_cons_zero, List.set_cons_succ, q0, q1, q2, q3, q5, q6, q7, q8, q9, q11, q12]
              clear q0 q1 q2 q3 q5 q6 q7 q8 q9 q11 q12
              clear hR
              go_wp2_with fail
              go_ret
              exact ⟨rfl, bthen (below_drewN HW.out nq) (bthen (below_drew _) (grow_below hX9))⟩
        · subst hl
          obtain rfl : n = 1 := by have := HLEN.out; simpa using this.symm
          rw [hD] at HDO
          try dsimp only at HDO
          rw [show (([] : List Ent)).length = 0 from rfl] at HDO
          go_wp2_with (refine wpList_load_blk (by rfl) 25 _ rfl gh rfl 25 _ _ hh Try.underlying25 rfl (sizeHp m) ?_)
          refine (HDO.out w2 HW.out).mono ?_
          rintro e wa ⟨A1, c1, rfl, hown, hb⟩
          clear hh
          replace HW := Lib.hid (bthen HW.out hb)
          replace HH := Lib.hid (HH.out.on hb)
          have HO1 := Lib.hid hown
          clear hown hb HDO
          go_upto_region 7 with (first
            | (refine wpList_alloc_blk (by rfl) 28 rfl (leftC (false, 0, 0)) zeroLeft ?_; intro wb hbb hBb hsb)
            | (refine wpList_store_all (by rfl) 28 _ _ rfl wa.heap.size (leftC (true, x.ttl, (x.cls % 8))) rfl rfl 28 _ hbb (sizeLeft _) rfl (oneLeft _) ?_; intro w3 hbc hgc hsc))
          have hbd : Below wa.heap.size wa w3 := bgrown hBb hgc hBb.size (Nat.le_refl _)
          replace HW := Lib.hid (bthen HW.out hbd)
          replace HH := Lib.hid (HH.out.on hbd)
          replace HO1 := Lib.hid (HO1.out.below hbd)
          obtain ⟨gl, hgl⟩ : ∃ g, wa.heap.size = g := ⟨_, rfl⟩
          rw [hgl] at hbc ⊢
          have HL := Lib.hid hbc
          clear hbb hBb hsb hbc hgc hsc hbd hgl
          have y0 : w3.cell? ⟨gl, 0, none⟩ = some (.bool true) := HL.out.cell 0
          have y1 : w3.cell? ⟨gl, 1, none⟩ = some (.int .u8 x.ttl) := HL.out.cell 1
          have y2 : w3.cell? ⟨gl, 2, none⟩ = some (.int .u8 (x.cls % 8)) := HL.out.cell 2
          have d0 : w3.cell? ⟨gh, 0, none⟩ = some (.int .i64 m.op) := HH.out.cell 0
          have d1 : w3.cell? ⟨gh, 1, none⟩ = some (.slice m.lA m.ln m.lc) := HH.out.cell 1
          have d5 : w3.cell? ⟨gh, 5, none⟩ = some (.bool m.pipe) := HH.out.cell 5
          rw [hop] at d0
          obtain ⟨b, ob, hA, hbl, q0, q1, q2, q3⟩ := ent_row (HR.out.below HW.out) 0 x (by first | rfl | simp)
          subst hA
          go_upto_region 17 with fail
          go_quiet (fail)
          go_wp2_with fail
          go_ret
          exact ⟨rfl, below_drewN HW.out nq⟩
        · obtain ⟨q, hqq⟩ : ∃ q, r.length + 1 = q := ⟨_, rfl⟩
          have hln := HLEN.out
          have hnq : n = q + 1 := by rw [← hln, hl, ← hqq]; simp
          rw [hqq] at h16
          subst hl
          have HQQ := Lib.hid (show (y :: r).length = q by rw [← hqq]; rfl)
          have HNQ := Lib.hid hnq
          have HQS := Lib.hid hqq
          have HP1 := Lib.hid hp1
          have HP0 := Lib.hid hp0
          have HOP := Lib.hid hop
          clear hnq hqq hp1 hp0 hop hln
          rw [hD] at HDO
          try dsimp only at HDO
          rw [HQQ.out] at HDO
          go_wp2_with (refine wpList_load_blk (by rfl) 25 _ rfl gh rfl 25 _ _ hh Try.underlying25 rfl (sizeHp m) ?_)
          refine (HDO.out w2 HW.out).mono ?_
          rintro e wa ⟨A1, c1, rfl, hown, hb⟩
          clear hh
          replace HW := Lib.hid (bthen HW.out hb)
          replace HH := Lib.hid (HH.out.on hb)
          have HO1 := Lib.hid hown
          clear hown hb HDO
          go_upto_region 7 with (first
            | (refine wpList_alloc_blk (by rfl) 28 rfl (leftC (false, 0, 0)) zeroLeft ?_; intro wb hbb hBb hsb)
            | (refine wpList_store_all (by rfl) 28 _ _ rfl wa.heap.size (leftC (false, 0, 0)) rfl rfl 28 _ hbb (sizeLeft _) rfl (oneLeft _) ?_; intro w3 hbc hgc hsc))
          have hbd : Below wa.heap.size wa w3 := bgrown hBb hgc hBb.size (Nat.le_refl _)
          replace HW := Lib.hid (bthen HW.out hbd)
          replace HH := Lib.hid (HH.out.on hbd)
          replace HO1 := Lib.hid (HO1.out.below hbd)
          obtain ⟨gl, hgl⟩ : ∃ g, wa.heap.size = g := ⟨_, rfl⟩
          rw [hgl] at hbc ⊢
          have HL := Lib.hid hbc
          clear hbb hBb hsb hbc hgc hsc hbd hgl
          have y0 : w3.cell? ⟨gl, 0, none⟩ = some (.bool false) := HL.out.cell 0
          have y1 : w3.cell? ⟨gl, 1, none⟩ = some (.int .u8 0) := HL.out.cell 1
          have y2 : w3.cell? ⟨gl, 2, none⟩ = some (.int .u8 0) := HL.out.cell 2
          have d0 : w3.cell? ⟨gh, 0, none⟩ = some (.int .i64 m.op) := HH.out.cell 0
          have d1 : w3.cell? ⟨gh, 1, none⟩ = some (.slice m.lA m.ln m.lc) := HH.out.cell 1
          have d5 : w3.cell? ⟨gh, 5, none⟩ = some (.bool m.pipe) := HH.out.cell 5
          rw [HOP.out] at d0
          have hnq := HNQ.out
          have hqq := HQS.out
          obtain ⟨g1, rfl, hgb, hgs, hcell, _⟩ := HO1.out.open_ (by omega)
          have z3 : w3.cell? ⟨g1, 3, none⟩ = some (.int .u8 y.ttl) := hcell 3 (.int .u8 y.ttl) rfl
          obtain ⟨b, ob, hA, hbl, q0, q1, q2, q3⟩ := ent_row (HR.out.below HW.out) 0 x (by first | rfl | simp)
          subst hA
          obtain ⟨b', o', hA', _, _, _, _, q7⟩ := ent_row (HR.out.below HW.out) 1 e rfl
          obtain ⟨rfl, rfl⟩ : b = b' ∧ ob = o' := by injection hA' with hA'; injection hA' with h1 h2; exact ⟨h1, h2⟩
          try clear hA'
          try rw [Nat.one_mul] at q7
          obtain ⟨s, hs⟩ : ∃ s, s = r.length := ⟨_, rfl⟩
          obtain ⟨i, hi⟩ : ∃ i, i = 1 := ⟨_, rfl⟩
          obtain ⟨j, hj⟩ : ∃ j, j = 2 := ⟨_, rfl⟩
          have hle1 := HO1.out.le
          have hcap1 := HO1.out.cap
          have hca := HO1.out.row.cut (k := i) (cap := c1) (by omega) hle1
          have hcb := (HR.out.below HW.out).cut (k := j) (cap := c) (by omega) hc
          rw [addr_addR] at hca hcb
          rw [show q - i = s by omega] at hca
          rw [show n - j = s by omega] at hcb
          have HCA := Lib.hid (show Row w3 w3.heap.size 4 (if c1 = i then some ⟨g1, 0, none⟩ else some ⟨g1, 0 + i * 4, none⟩) s (evs r) by rw [show (evs (y :: r)).drop (i * 4) = evs r by rw [hi]; rfl] at hca; exact hca)
          have HCB := Lib.hid (show Row w3 w3.heap.size 4 (if c = j then some ⟨b, ob, none⟩ else some ⟨b, ob + j * 4, none⟩) s (evs r) by rw [show (evs (x :: e :: r)).drop (j * 4) = evs r by rw [hj]; rfl] at hcb; exact hcb.more HW.out.size)
          have HJ := Lib.hid hj
          have HI := Lib.hid hi
          have HSS := Lib.hid hs
          obtain ⟨p, hp⟩ : ∃ p, m.pipe = p := ⟨_, rfl⟩
          rw [hp] at d5 HP1 HP0
          have hqpos : ((q : Int) == 0) = false := by simp; omega
          have h16i : ¬ (16 : Int) < (q : Int) := by omega
          have h1s : i + s = q := by omega
          have h2s : j + s = n := by omega
          have HNN := Lib.hid (show (n : Int) - 1 = (q : Int) by omega)
          have HQS1 := Lib.hid (show (q : Int) - 1 = (s : Int) by omega)
          have hmin : ¬ (n : Int) - 1 < (q : Int) := by omega
          have hn2 : 2 ≤ n := by omega
          have hqge : 1 ≤ q := by omega
          clear hca hcb hcell hD hj hi hs hqq hp hnq
          go_upto_region 14 with fail
          rw [HNN.out]
          go_upto_region 21 with fail
          rw [HQS1.out]
          cases p
          · have hcmp : ¬ x.ttl ≤ y.ttl := by have := HP0.out rfl; omega
            go_quiet (fail)
            go_upto_region 23 with fail
            obtain ⟨w5, hw5⟩ : ∃ z, z = w3.drewN nq := ⟨_, rfl⟩
            have z0' : w5.cell? ⟨gh, 0, none⟩ = some (.int .i64 2) := by rw [hw5]; exact d0
            have z5' : w5.cell? ⟨gh, 5, none⟩ = some (.bool false) := by rw [hw5]; exact d5
            have zz' : w5.cell? ⟨g1, 3, none⟩ = some (.int .u8 y.ttl) := by rw [hw5]; exact z3
            have zq' : w5.cell? ⟨b, ob + 3, none⟩ = some (.int .u8 x.ttl) := by rw [hw5]; exact q3
            rw [← hw5]
            replace HW := Lib.hid (show Below w.heap.size w w5 by rw [hw5]; exact below_drewN HW.out nq)
            replace HCA := Lib.hid (show Row w5 w5.heap.size 4 (if c1 = i then some ⟨g1, 0, none⟩ else some ⟨g1, 0 + i * 4, none⟩) s (evs r) by rw [hw5]; exact HCA.out.drewN nq)
            replace HCB := Lib.hid (show Row w5 w5.heap.size 4 (if c = j then some ⟨b, ob, none⟩ else some ⟨b, ob + j * 4, none⟩) s (evs r) by rw [hw5]; exact HCB.out.drewN nq)
            clear hw5 d0 d1 d5 y0 y1 y2 z3 q0 q1 q2 q3 q7 nq
            go_quiet (fail)
            clear z0' z5' zz' zq' hcmp hmin
            go_wp2_with fail
            refine wp_region_rel (fun A B => A.grownBy B none) (fun A => grown_refl A _) (fun A B C h k => grown_trans h k) (relAt (List.cons (fun v _ => v = .slice (some ⟨g1, 0, none⟩) q c1) (List.cons (fun v _ => v = .int .i64 (q : Int)) (List.cons (fun v _ => v = .int .i64 (s : Int)) (List.cons (fun v _ => v = .int .i64 (i : Int)) (List.cons (fun v W => ∃ X d, v = .slice X s d ∧ Row W W.heap.size 4 X s (evs (r))) (List.cons (fun v _ => v = .slice (some ⟨b, ob, none⟩) n c) (List.cons (fun v _ => v = .slice (some ⟨b, ob, none⟩) n c) (List.cons (fun v _ => v = .int .i64 (n : Int)) (List.cons (fun v _ => v = .int .i64 (s : Int)) (List.cons (fun v _ => v = .int .i64 (j : Int)) (List.cons (fun v W => ∃ X d, v = .slice X s d ∧ Row W W.heap.size 4 X s (evs (r))) (List.cons (fun v _ => v = .bool true) (List.cons (fun v _ => v = .bool true) ([]))))))))))))))) (MonoL.at_ (.cons (mono_val _) (.cons (mono_val _) (.cons (mono_val _) (.cons (mono_val _) (.cons (fun _ _ _ ⟨X, d, hv, h⟩ hg => ⟨X, d, hv, (h.below (grow_below hg)).more hg.size⟩) (.cons (mono_val _) (.cons (mono_val _) (.cons (mono_val _) (.cons (mono_val _) (.cons (mono_val _) (.cons (fun _ _ _ ⟨X, d, hv, h⟩ hg => ⟨X, d, hv, (h.below (grow_below hg)).more hg.size⟩) (.cons (mono_val _) (.cons (mono_val _) .nil)))))))))))))) (by kernel_rfl) (by kernel_rfl) ⟨?_, ?_, ?_, ?_, ?_, ?_, ?_, ?_, ?_, ?_, ?_, ?_, ?_, trivial⟩ ?_
            · intro a vs W hX hR he hf K hK
              rw [if_pos (wanted_none rfl)]
              have e6 : a.eval (.tmp 6) = .slice (some ⟨g1, 0, none⟩) q c1 := hf 6 (by kernel_rfl)
              refine wp_value (v := .slice (some ⟨g1, 0, none⟩) q c1) ?_ (hK _ _ rfl (grown_refl W _))
              simp only [execOp, e6]
              try go_simp
              try (first | rfl | omega | (simp only [IntKind.wrap_i64, IntKind.wrap_u8, IntKind.wrap_u64, IntKind.wrap_u16, IntKind.wrap_u32]; omega) | (rw [Int.tmod_eq_emod_of_nonneg (by omega)]) | (rw [Int.tmod_eq_emod_of_nonneg (by omega)]; omega))
            · intro a vs W hX hR he hf K hK
              rw [if_pos (wanted_none rfl)]
              have e9 : a.eval (.tmp 9) = .int .i64 (q : Int) := hf 9 (by kernel_rfl)
              refine wp_value (v := .int .i64 (q : Int)) ?_ (hK _ _ rfl (grown_refl W _))
              simp only [execOp, e9]
              try go_simp
              try (first | rfl | omega | (simp only [IntKind.wrap_i64, IntKind.wrap_u8, IntKind.wrap_u64, IntKind.wrap_u16, IntKind.wrap_u32]; omega) | (rw [Int.tmod_eq_emod_of_nonneg (by omega)]) | (rw [Int.tmod_eq_emod_of_nonneg (by omega)]; omega))
            · intro a vs W hX hR he hf K hK
              rw [if_pos (wanted_none rfl)]
              have e10 : a.eval (.tmp 10) = .int .i64 (s : Int) := hf 10 (by kernel_rfl)
              refine wp_value (v := .int .i64 (s : Int)) ?_ (hK _ _ rfl (grown_refl W _))
              simp only [execOp, e10]
              try go_simp
              try (first | rfl | omega | (simp only [IntKind.wrap_i64, IntKind.wrap_u8, IntKind.wrap_u64, IntKind.wrap_u16, IntKind.wrap_u32]; omega) | (rw [Int.tmod_eq_emod_of_nonneg (by omega)]) | (rw [Int.tmod_eq_emod_of_nonneg (by omega)]; omega))
            · intro a vs W hX hR he hf K hK
              rw [if_pos (wanted_none rfl)]
              have e130 : a.eval (.tmp 130) = .int .i64 (q : Int) := (he 1 130 (by kernel_rfl) rfl).trans (hR 1 (by kernel_rfl))
              have e131 : a.eval (.tmp 131) = .int .i64 (s : Int) := (he 2 131 (by kernel_rfl) rfl).trans (hR 2 (by kernel_rfl))
              have hsub : (q : Int) - (s : Int) = (i : Int) := by omega
              refine wp_value (v := _) ?_ (hK _ _ rfl (grown_refl W _))
              simp only [execOp, e130, e131]
              go_simp
              first | done | (simp only [IntKind.wrap_i64]; omega)
            · intro a vs W hX hR he hf K hK
              rw [if_pos (wanted_none rfl)]
              have e129 : a.eval (.tmp 129) = .slice (some ⟨g1, 0, none⟩) q c1 := (he 0 129 (by kernel_rfl) rfl).trans (hR 0 (by kernel_rfl))
              have e132 : a.eval (.tmp 132) = .int .i64 (i : Int) := (he 3 132 (by kernel_rfl) rfl).trans (hR 3 (by kernel_rfl))
              have f129 := e129
              simp only [Act.eval, Array.getD_eq_getD_getElem?] at f129
              have f132 := e132
              simp only [Act.eval, Array.getD_eq_getD_getElem?] at f132
              have hbW := bthen (below_drew _) (grow_below hX)
              have k1 : ¬ (q : Int) < (i : Int) := by omega
              have k2 : ¬ (c1 : Int) < (q : Int) := by omega
              have k3 : (i : Int) ≤ (q : Int) := by omega
              refine wp_value (v := .slice (if c1 = i then some ⟨g1, 0, none⟩ else some ⟨g1, 0 + i * 4, none⟩) s (c1 - i)) ?_ (hK _ _ ⟨_, _, rfl, ((HCA.out.drewN nq).below hbW).more hbW.size⟩ (grown_refl W _))
              simp only [execOp, e129, e132]
              go_simp
              first | done | omega
            · intro a vs W hX hR he hf K hK
              rw [if_pos (wanted_none rfl)]
              have e0 : a.eval (.tmp 0) = .slice (some ⟨b, ob, none⟩) n c := hf 0 (by kernel_rfl)
              refine wp_value (v := .slice (some ⟨b, ob, none⟩) n c) ?_ (hK _ _ rfl (grown_refl W _))
              simp only [execOp, e0]
              try go_simp
              try (first | rfl | omega | (simp only [IntKind.wrap_i64, IntKind.wrap_u8, IntKind.wrap_u64, IntKind.wrap_u16, IntKind.wrap_u32]; omega) | (rw [Int.tmod_eq_emod_of_nonneg (by omega)]) | (rw [Int.tmod_eq_emod_of_nonneg (by omega)]; omega))
            · intro a vs W hX hR he hf K hK
              rw [if_pos (wanted_none rfl)]
              have e0 : a.eval (.tmp 0) = .slice (some ⟨b, ob, none⟩) n c := hf 0 (by kernel_rfl)
              refine wp_value (v := .slice (some ⟨b, ob, none⟩) n c) ?_ (hK _ _ rfl (grown_refl W _))
              simp only [execOp, e0]
              try go_simp
              try (first | rfl | omega | (simp only [IntKind.wrap_i64, IntKind.wrap_u8, IntKind.wrap_u64, IntKind.wrap_u16, IntKind.wrap_u32]; omega) | (rw [Int.tmod_eq_emod_of_nonneg (by omega)]) | (rw [Int.tmod_eq_emod_of_nonneg (by omega)]; omega))
            · intro a vs W hX hR he hf K hK
              rw [if_pos (wanted_none rfl)]
              have e135 : a.eval (.tmp 135) = .slice (some ⟨b, ob, none⟩) n c := (he 6 135 (by kernel_rfl) rfl).trans (hR 6 (by kernel_rfl))
              have f135 := e135
              simp only [Act.eval, Array.getD_eq_getD_getElem?] at f135
              refine wp_value (v := .int .i64 (n : Int)) ?_ (hK _ _ rfl (grown_refl W _))
              simp only [execOp, e135]
              try go_simp
              try (first | rfl | omega | (simp only [IntKind.wrap_i64, IntKind.wrap_u8, IntKind.wrap_u64, IntKind.wrap_u16, IntKind.wrap_u32]; omega) | (rw [Int.tmod_eq_emod_of_nonneg (by omega)]) | (rw [Int.tmod_eq_emod_of_nonneg (by omega)]; omega))
            · intro a vs W hX hR he hf K hK
              rw [if_pos (wanted_none rfl)]
              have e10 : a.eval (.tmp 10) = .int .i64 (s : Int) := hf 10 (by kernel_rfl)
              refine wp_value (v := .int .i64 (s : Int)) ?_ (hK _ _ rfl (grown_refl W _))
              simp only [execOp, e10]
              try go_simp
              try (first | rfl | omega | (simp only [IntKind.wrap_i64, IntKind.wrap_u8, IntKind.wrap_u64, IntKind.wrap_u16, IntKind.wrap_u32]; omega) | (rw [Int.tmod_eq_emod_of_nonneg (by omega)]) | (rw [Int.tmod_eq_emod_of_nonneg (by omega)]; omega))
            · intro a vs W hX hR he hf K hK
              rw [if_pos (wanted_none rfl)]
              have e136 : a.eval (.tmp 136) = .int .i64 (n : Int) := (he 7 136 (by kernel_rfl) rfl).trans (hR 7 (by kernel_rfl))
              have e137 : a.eval (.tmp 137) = .int .i64 (s : Int) := (he 8 137 (by kernel_rfl) rfl).trans (hR 8 (by kernel_rfl))
              have hsub : (n : Int) - (s : Int) = (j : Int) := by omega
              refine wp_value (v := _) ?_ (hK _ _ rfl (grown_refl W _))
              simp only [execOp, e136, e137]
              go_simp
              first | done | (simp only [IntKind.wrap_i64]; omega)
            · intro a vs W hX hR he hf K hK
              rw [if_pos (wanted_none rfl)]
              have e134 : a.eval (.tmp 134) = .slice (some ⟨b, ob, none⟩) n c := (he 5 134 (by kernel_rfl) rfl).trans (hR 5 (by kernel_rfl))
              have e138 : a.eval (.tmp 138) = .int .i64 (j : Int) := (he 9 138 (by kernel_rfl) rfl).trans (hR 9 (by kernel_rfl))
              have f134 := e134
              simp only [Act.eval, Array.getD_eq_getD_getElem?] at f134
              have f138 := e138
              simp only [Act.eval, Array.getD_eq_getD_getElem?] at f138
              have hbW := bthen (below_drew _) (grow_below hX)
              have k1 : ¬ (n : Int) < (j : Int) := by omega
              have k2 : ¬ (c : Int) < (n : Int) := by omega
              have k3 : (j : Int) ≤ (n : Int) := by omega
              refine wp_value (v := .slice (if c = j then some ⟨b, ob, none⟩ else some ⟨b, ob + j * 4, none⟩) s (c - j)) ?_ (hK _ _ ⟨_, _, rfl, ((HCB.out.drewN nq).below hbW).more hbW.size⟩ (grown_refl W _))
              simp only [execOp, e134, e138]
              go_simp
              first | done | omega
            · intro a vs W hX hR he hf K hK
              rw [if_pos (wanted_none rfl)]
              have e133 := he 4 133 (by kernel_rfl) rfl
              have p133 := hR 4 (by kernel_rfl)
              change (fun v W => ∃ X d, v = .slice X s d ∧ Row W W.heap.size 4 X s (evs (r))) (vs 4) W at p133
              have e139 := he 10 139 (by kernel_rfl) rfl
              have p139 := hR 10 (by kernel_rfl)
              change (fun v W => ∃ X d, v = .slice X s d ∧ Row W W.heap.size 4 X s (evs (r))) (vs 10) W at p139
              have hbW := bthen (below_drew _) (grow_below hX)
              obtain ⟨X1, z1, hv1, hr1⟩ := p133
              obtain ⟨X2, z2, hv2, hr2⟩ := p139
              rw [hv1] at e133
              rw [hv2] at e139
              refine wp_enter (f := 12) (args := #[.slice X1 s z1, .slice X2 s z2]) (by simp only [execOp, e133, e139]; go_simp; exact ⟨by simpa [Act.eval] using e133, by simpa [Act.eval] using e139⟩) ((exact_same X1 X2 s z1 z2 (r) W _ hr1 hr2 (by omega)).mono ?_)
              rintro q' w' ⟨rfl, hb⟩
              exact ⟨_, rfl, hK _ _ rfl (below_grow hb _)⟩
            · intro a vs W hX hR he hf K hK
              rw [if_pos (wanted_none rfl)]
              have e140 : a.eval (.tmp 140) = .bool true := (he 11 140 (by kernel_rfl) rfl).trans (hR 11 (by kernel_rfl))
              refine wp_value (v := .bool true) ?_ (hK _ _ rfl (grown_refl W _))
              simp only [execOp, e140]
              try go_simp
              try (first | rfl | omega | (simp only [IntKind.wrap_i64, IntKind.wrap_u8, IntKind.wrap_u64, IntKind.wrap_u16, IntKind.wrap_u32]; omega) | (rw [Int.tmod_eq_emod_of_nonneg (by omega)]) | (rw [Int.tmod_eq_emod_of_nonneg (by omega)]; omega))
            · intro vs w9 hX9 hR
              have q0 := hR 0 (by decide)
              have q1 := hR 1 (by decide)
              have q2 := hR 2 (by decide)
              have q3 := hR 3 (by decide)
              have q4 := hR 4 (by decide)
              have q5 := hR 5 (by decide)
              have q6 := hR 6 (by decide)
              have q7 := hR 7 (by decide)
              have q8 := hR 8 (by decide)
              have q9 := hR 9 (by decide)
              have q10 := hR 10 (by decide)
              have q11 := hR 11 (by decide)
              have q12 := hR 12 (by decide)
              change vs 0 = .slice (some ⟨g1, 0, none⟩) q c1 at q0
              change vs 1 = .int .i64 (q : Int) at q1
              change vs 2 = .int .i64 (s : Int) at q2
              change vs 3 = .int .i64 (i : Int) at q3
              change (fun v W => ∃ X d, v = .slice X s d ∧ Row W W.heap.size 4 X s (evs (r))) (vs 4) w9 at q4
              change vs 5 = .slice (some ⟨b, ob, none⟩) n c at q5
              change vs 6 = .slice (some ⟨b, ob, none⟩) n c at q6
              change vs 7 = .int .i64 (n : Int) at q7
              change vs 8 = .int .i64 (s : Int) at q8
              change vs 9 = .int .i64 (j : Int) at q9
              change (fun v W => ∃ X d, v = .slice X s d ∧ Row W W.heap.size 4 X s (evs (r))) (vs 10) w9 at q10
              change vs 11 = .bool true at q11
              change vs 12 = .bool true at q12
              simp only [putAll, Act.put, List.setIfInBounds_toArray, List.set_cons_zero, List.set_cons_succ, q0, q1, q2, q3, q5, q6, q7, q8, q9, q11, q12]
              clear q0 q1 q2 q3 q5 q6 q7 q8 q9 q11 q12
              clear hR
              go_wp2_with fail
              go_ret
              exact ⟨rfl, bthen (below_drewN HW.out nq) (bthen (below_drew _) (grow_below hX9))⟩
          · have hcmp : ¬ e.ttl ≤ y.ttl := by have := HP1.out rfl; omega
            go_quiet (fail)
            go_upto_region 23 with fail
            obtain ⟨w5, hw5⟩ : ∃ z, z = w3.drewN nq := ⟨_, rfl⟩
            have z0' : w5.cell? ⟨gh, 0, none⟩ = some (.int .i64 2) := by rw [hw5]; exact d0
            have z5' : w5.cell? ⟨gh, 5, none⟩ = some (.bool true) := by rw [hw5]; exact d5
            have zz' : w5.cell? ⟨g1, 3, none⟩ = some (.int .u8 y.ttl) := by rw [hw5]; exact z3
            have zq' : w5.cell? ⟨b, ob + 3, none⟩ = some (.int .u8 x.ttl) := by rw [hw5]; exact q3
            rw [← hw5]
            replace HW := Lib.hid (show Below w.heap.size w w5 by rw [hw5]; exact below_drewN HW.out nq)
            replace HCA := Lib.hid (show Row w5 w5.heap.size 4 (if c1 = i then some ⟨g1, 0, none⟩ else some ⟨g1, 0 + i * 4, none⟩) s (evs r) by rw [hw5]; exact HCA.out.drewN nq)
            replace HCB := Lib.hid (show Row w5 w5.heap.size 4 (if c = j then some ⟨b, ob, none⟩ else some ⟨b, ob + j * 4, none⟩) s (evs r) by rw [hw5]; exact HCB.out.drewN nq)
            clear hw5 d0 d1 d5 y0 y1 y2 z3 q0 q1 q2 q3 q7 nq
            go_quiet (fail)
            clear z0' z5' zz' zq' hcmp hmin
            go_wp2_with fail
            refine wp_region_rel (fun A B => A.grownBy B none) (fun A => grown_refl A _) (fun A B C h k => grown_trans h k) (relAt (List.cons (fun v _ => v = .slice (some ⟨g1, 0, none⟩) q c1) (List.cons (fun v _ => v = .int .i64 (q : Int)) (List.cons (fun v _ => v = .int .i64 (s : Int)) (List.cons (fun v _ => v = .int .i64 (i : Int)) (List.cons (fun v W => ∃ X d, v = .slice X s d ∧ Row W W.heap.size 4 X s (evs (r))) (List.cons (fun v _ => v = .slice (some ⟨b, ob, none⟩) n c) (List.cons (fun v _ => v = .slice (some ⟨b, ob, none⟩) n c) (List.cons (fun v _ => v = .int .i64 (n : Int)) (List.cons (fun v _ => v = .int .i64 (s : Int)) (List.cons (fun v _ => v = .int .i64 (j : Int)) (List.cons (fun v W => ∃ X d, v = .slice X s d ∧ Row W W.heap.size 4 X s (evs (r))) (List.cons (fun v _ => v = .bool true) (List.cons (fun v _ => v = .bool true) ([]))))))))))))))) (MonoL.at_ (.cons (mono_val _) (.cons (mono_val _) (.cons (mono_val _) (.cons (mono_val _) (.cons (fun _ _ _ ⟨X, d, hv, h⟩ hg => ⟨X, d, hv, (h.below (grow_below hg)).more hg.size⟩) (.cons (mono_val _) (.cons (mono_val _) (.cons (mono_val _) (.cons (mono_val _) (.cons (mono_val _) (.cons (fun _ _ _ ⟨X, d, hv, h⟩ hg => ⟨X, d, hv, (h.below (grow_below hg)).more hg.size⟩) (.cons (mono_val _) (.cons (mono_val _) .nil)))))))))))))) (by kernel_rfl) (by kernel_rfl) ⟨?_, ?_, ?_, ?_, ?_, ?_, ?_, ?_, ?_, ?_, ?_, ?_, ?_, trivial⟩ ?_
            · intro a vs W hX hR he hf K hK
              rw [if_pos (wanted_none rfl)]
              have e6 : a.eval (.tmp 6) = .slice (some ⟨g1, 0, none⟩) q c1 := hf 6 (by kernel_rfl)
              refine wp_value (v := .slice (some ⟨g1, 0, none⟩) q c1) ?_ (hK _ _ rfl (grown_refl W _))
              simp only [execOp, e6]
              try go_simp
              try (first | rfl | omega | (simp only [IntKind.wrap_i64, IntKind.wrap_u8, IntKind.wrap_u64, IntKind.wrap_u16, IntKind.wrap_u32]; omega) | (rw [Int.tmod_eq_emod_of_nonneg (by omega)]) | (rw [Int.tmod_eq_emod_of_nonneg (by omega)]; omega))
            · intro a vs W hX hR he hf K hK
              rw [if_pos (wanted_none rfl)]
              have e9 : a.eval (.tmp 9) = .int .i64 (q : Int) := hf 9 (by kernel_rfl)
              refine wp_value (v := .int .i64 (q : Int)) ?_ (hK _ _ rfl (grown_refl W _))
              simp only [execOp, e9]
              try go_simp
              try (first | rfl | omega | (simp only [IntKind.wrap_i64, IntKind.wrap_u8, IntKind.wrap_u64, IntKind.wrap_u16, IntKind.wrap_u32]; omega) | (rw [Int.tmod_eq_emod_of_nonneg (by omega)]) | (rw [Int.tmod_eq_emod_of_nonneg (by omega)]; omega))
            · intro a vs W hX hR he hf K hK
              rw [if_pos (wanted_none rfl)]
              have e10 : a.eval (.tmp 10) = .int .i64 (s : Int) := hf 10 (by kernel_rfl)
              refine wp_value (v := .int .i64 (s : Int)) ?_ (hK _ _ rfl (grown_refl W _))
              simp only [execOp, e10]
              try go_simp
              try (first | rfl | omega | (simp only [IntKind.wrap_i64, IntKind.wrap_u8, IntKind.wrap_u64, IntKind.wrap_u16, IntKind.wrap_u32]; omega) | (rw [Int.tmod_eq_emod_of_nonneg (by omega)]) | (rw [Int.tmod_eq_emod_of_nonneg (by omega)]; omega))
            · intro a vs W hX hR he hf K hK
              rw [if_pos (wanted_none rfl)]
              have e130 : a.eval (.tmp 130) = .int .i64 (q : Int) := (he 1 130 (by kernel_rfl) rfl).trans (hR 1 (by kernel_rfl))
              have e131 : a.eval (.tmp 131) = .int .i64 (s : Int) := (he 2 131 (by kernel_rfl) rfl).trans (hR 2 (by kernel_rfl))
              have hsub : (q : Int) - (s : Int) = (i : Int) := by omega
              refine wp_value (v := _) ?_ (hK _ _ rfl (grown_refl W _))
              simp only [execOp, e130, e131]
              go_simp
              first | done | (simp only [IntKind.wrap_i64]; omega)
            · intro a vs W hX hR he hf K hK
              rw [if_pos (wanted_none rfl)]
              have e129 : a.eval (.tmp 129) = .slice (some ⟨g1, 0, none⟩) q c1 := (he 0 129 (by kernel_rfl) rfl).trans (hR 0 (by kernel_rfl))
              have e132 : a.eval (.tmp 132) = .int .i64 (i : Int) := (he 3 132 (by kernel_rfl) rfl).trans (hR 3 (by kernel_rfl))
              have f129 := e129
              simp only [Act.eval, Array.getD_eq_getD_getElem?] at f129
              have f132 := e132
              simp only [Act.eval, Array.getD_eq_getD_getElem?] at f132
              have hbW := bthen (below_drew _) (grow_below hX)
              have k1 : ¬ (q : Int) < (i : Int) := by omega
              have k2 : ¬ (c1 : Int) < (q : Int) := by omega
              have k3 : (i : Int) ≤ (q : Int) := by omega
              refine wp_value (v := .slice (if c1 = i then some ⟨g1, 0, none⟩ else some ⟨g1, 0 + i * 4, none⟩) s (c1 - i)) ?_ (hK _ _ ⟨_, _, rfl, ((HCA.out.drewN nq).below hbW).more hbW.size⟩ (grown_refl W _))
              simp only [execOp, e129, e132]
              go_simp
              first | done | omega
            · intro a vs W hX hR he hf K hK
              rw [if_pos (wanted_none rfl)]
              have e0 : a.eval (.tmp 0) = .slice (some ⟨b, ob, none⟩) n c := hf 0 (by kernel_rfl)
              refine wp_value (v := .slice (some ⟨b, ob, none⟩) n c) ?_ (hK _ _ rfl (grown_refl W _))
              simp only [execOp, e0]
              try go_simp
              try (first | rfl | omega | (simp only [IntKind.wrap_i64, IntKind.wrap_u8, IntKind.wrap_u64, IntKind.wrap_u16, IntKind.wrap_u32]; omega) | (rw [Int.tmod_eq_emod_of_nonneg (by omega)]) | (rw [Int.tmod_eq_emod_of_nonneg (by omega)]; omega))
            · intro a vs W hX hR he hf K hK
              rw [if_pos (wanted_none rfl)]
              have e0 : a.eval (.tmp 0) = .slice (some ⟨b, ob, none⟩) n c := hf 0 (by kernel_rfl)
              refine wp_value (v := .slice (some ⟨b, ob, none⟩) n c) ?_ (hK _ _ rfl (grown_refl W _))
              simp only [execOp, e0]
              try go_simp
              try (first | rfl | omega | (simp only [IntKind.wrap_i64, IntKind.wrap_u8, IntKind.wrap_u64, IntKind.wrap_u16, IntKind.wrap_u32]; omega) | (rw [Int.tmod_eq_emod_of_nonneg (by omega)]) | (rw [Int.tmod_eq_emod_of_nonneg (by omega)]; omega))
            · intro a vs W hX hR he hf K hK
              rw [if_pos (wanted_none rfl)]
              have e135 : a.eval (.tmp 135) = .slice (some ⟨b, ob, none⟩) n c := (he 6 135 (by kernel_rfl) rfl).trans (hR 6 (by kernel_rfl))
              have f135 := e135
              simp only [Act.eval, Array.getD_eq_getD_getElem?] at f135
              refine wp_value (v := .int .i64 (n : Int)) ?_ (hK _ _ rfl (grown_refl W _))
              simp only [execOp, e135]
              try go_simp
              try (first | rfl | omega | (simp only [IntKind.wrap_i64, IntKind.wrap_u8, IntKind.wrap_u64, IntKind.wrap_u16, IntKind.wrap_u32]; omega) | (rw [Int.tmod_eq_emod_of_nonneg (by omega)]) | (rw [Int.tmod_eq_emod_of_nonneg (by omega)]; omega))
            · intro a vs W hX hR he hf K hK
              rw [if_pos (wanted_none rfl)]
              have e10 : a.eval (.tmp 10) = .int .i64 (s : Int) := hf 10 (by kernel_rfl)
              refine wp_value (v := .int .i64 (s : Int)) ?_ (hK _ _ rfl (grown_refl W _))
              simp only [execOp, e10]
              try go_simp
              try (first | rfl | omega | (simp only [IntKind.wrap_i64, IntKind.wrap_u8, IntKind.wrap_u64, IntKind.wrap_u16, IntKind.wrap_u32]; omega) | (rw [Int.tmod_eq_emod_of_nonneg (by omega)]) | (rw [Int.tmod_eq_emod_of_nonneg (by omega)]; omega))
            · intro a vs W hX hR he hf K hK
              rw [if_pos (wanted_none rfl)]
              have e136 : a.eval (.tmp 136) = .int .i64 (n : Int) := (he 7 136 (by kernel_rfl) rfl).trans (hR 7 (by kernel_rfl))
              have e137 : a.eval (.tmp 137) = .int .i64 (s : Int) := (he 8 137 (by kernel_rfl) rfl).trans (hR 8 (by kernel_rfl))
              have hsub : (n : Int) - (s : Int) = (j : Int) := by omega
              refine wp_value (v := _) ?_ (hK _ _ rfl (grown_refl W _))
              simp only [execOp, e136, e137]
              go_simp
              first | done | (simp only [IntKind.wrap_i64]; omega)
            · intro a vs W hX hR he hf K hK
              rw [if_pos (wanted_none rfl)]
              have e134 : a.eval (.tmp 134) = .slice (some ⟨b, ob, none⟩) n c := (he 5 134 (by kernel_rfl) rfl).trans (hR 5 (by kernel_rfl))
              have e138 : a.eval (.tmp 138) = .int .i64 (j : Int) := (he 9 138 (by kernel_rfl) rfl).trans (hR 9 (by kernel_rfl))
              have f134 := e134
              simp only [Act.eval, Array.getD_eq_getD_getElem?] at f134
              have f138 := e138
              simp only [Act.eval, Array.getD_eq_getD_getElem?] at f138
              have hbW := bthen (below_drew _) (grow_below hX)
              have k1 : ¬ (n : Int) < (j : Int) := by omega
              have k2 : ¬ (c : Int) < (n : Int) := by omega
              have k3 : (j : Int) ≤ (n : Int) := by omega
              refine wp_value (v := .slice (if c = j then some ⟨b, ob, none⟩ else some ⟨b, ob + j * 4, none⟩) s (c - j)) ?_ (hK _ _ ⟨_, _, rfl, ((HCB.out.drewN nq).below hbW).more hbW.size⟩ (grown_refl W _))
              simp only [execOp, e134, e138]
              go_simp
              first | done | omega
            · intro a vs W hX hR he hf K hK
              rw [if_pos (wanted_none rfl)]
              have e133 := he 4 133 (by kernel_rfl) rfl
              have p133 := hR 4 (by kernel_rfl)
              change (fun v W => ∃ X d, v = .slice X s d ∧ Row W W.heap.size 4 X s (evs (r))) (vs 4) W at p133
              have e139 := he 10 139 (by kernel_rfl) rfl
              have p139 := hR 10 (by kernel_rfl)
              change (fun v W => ∃ X d, v = .slice X s d ∧ Row W W.heap.size 4 X s (evs (r))) (vs 10) W at p139
              have hbW := bthen (below_drew _) (grow_below hX)
              obtain ⟨X1, z1, hv1, hr1⟩ := p133
              obtain ⟨X2, z2, hv2, hr2⟩ := p139
              rw [hv1] at e133
              rw [hv2] at e139
              refine wp_enter (f := 12) (args := #[.slice X1 s z1, .slice X2 s z2]) (by simp only [execOp, e133, e139]; go_simp; exact ⟨by simpa [Act.eval] using e133, by simpa [Act.eval] using e139⟩) ((exact_same X1 X2 s z1 z2 (r) W _ hr1 hr2 (by omega)).mono ?_)
              rintro q' w' ⟨rfl, hb⟩
              exact ⟨_, rfl, hK _ _ rfl (below_grow hb _)⟩
            · intro a vs W hX hR he hf K hK
              rw [if_pos (wanted_none rfl)]
              have e140 : a.eval (.tmp 140) = .bool true := (he 11 140 (by kernel_rfl) rfl).trans (hR 11 (by kernel_rfl))
              refine wp_value (v := .bool true) ?_ (hK _ _ rfl (grown_refl W _))
              simp only [execOp, e140]
              try go_simp
              try (first | rfl | omega | (simp only [IntKind.wrap_i64, IntKind.wrap_u8, IntKind.wrap_u64, IntKind.wrap_u16, IntKind.wrap_u32]; omega) | (rw [Int.tmod_eq_emod_of_nonneg (by omega)]) | (rw [Int.tmod_eq_emod_of_nonneg (by omega)]; omega))
            · intro vs w9 hX9 hR
              have q0 := hR 0 (by decide)
              have q1 := hR 1 (by decide)
              have q2 := hR 2 (by decide)
              have q3 := hR 3 (by decide)
              have q4 := hR 4 (by decide)
              have q5 := hR 5 (by decide)
              have q6 := hR 6 (by decide)
              have q7 := hR 7 (by decide)
              have q8 := hR 8 (by decide)
              have q9 := hR 9 (by decide)
              have q10 := hR 10 (by decide)
              have q11 := hR 11 (by decide)
              have q12 := hR 12 (by decide)
              change vs 0 = .slice (some ⟨g1, 0, none⟩) q c1 at q0
              change vs 1 = .int .i64 (q : Int) at q1
              change vs 2 = .int .i64 (s : Int) at q2
              change vs 3 = .int .i64 (i : Int) at q3
              change (fun v W => ∃ X d, v = .slice X s d ∧ Row W W.heap.size 4 X s (evs (r))) (vs 4) w9 at q4
              change vs 5 = .slice (some ⟨b, ob, none⟩) n c at q5
              change vs 6 = .slice (some ⟨b, ob, none⟩) n c at q6
              change vs 7 = .int .i64 (n : Int) at q7
              change vs 8 = .int .i64 (s : Int) at q8
              change vs 9 = .int .i64 (j : Int) at q9
              change (fun v W => ∃ X d, v = .slice X s d ∧ Row W W.heap.size 4 X s (evs (r))) (vs 10) w9 at q10
              change vs 11 = .bool true at q11
              change vs 12 = .bool true at q12
              simp only [putAll, Act.put, List.setIfInBounds_toArray, List.set_cons_zero, List.set_cons_succ, q0, q1, q2, q3, q5, q6, q7, q8, q9, q11, q12]
              clear q0 q1 q2 q3 q5 q6 q7 q8 q9 q11 q12
              clear hR
              go_wp2_with fail
              go_ret
              exact ⟨rfl, bthen (below_drewN HW.out nq) (bthen (below_drew _) (grow_below hX9))⟩
end Go.Proofs.Ytmpaockaeoknmaa

/- The walk of RewriteTwice of layer 20 (rewrite). No condition but those of the row. -/
import Derived.Test.YtmpaockaeoknmaaLaw20a
namespace Go.Proofs.Ytmpaockaeoknmaa
open Go.RowKit Go.Maps
set_option linter.unusedVariables false
set_option maxRecDepth 20000
set_option linter.unusedSimpArgs false

theorem same_same (A A2 : Option Addr) (n c c2 : Nat) (l : List Ent) (w : World) (B : Nat) (h1 : Row w B 4 A n (evs l)) (h2 : Row w B 4 A2 n (evs l)) (hn : n ≤ 1099511627776) :
    Calls Try.prog 17 #[.slice A n c, .slice A2 n c2] w fun e w' => e = .returned (.bool true) ∧ Below w.heap.size w w' := by
  have HR1 := Lib.hid h1
  have HR2 := Lib.hid h2
  have HL := Lib.hid (ent_len h1)
  clear h1 h2
  go_enter Try.func17, Try.ntmps17
  go_wp2_with fail
  go_loopw [5] (fun i wr => ∃ (k : Nat), k ≤ n ∧ i = .int .i64 k ∧ ∃ d, wr = w.drewN d) (fun i _ => n - (intOf i).toNat)
  case atStart => exact ⟨0, by omega, rfl, 0, rfl⟩
  case round =>
    obtain ⟨k, hk, rfl, d, rfl⟩ := hrel
    by_cases hlt : k < n
    · obtain ⟨x, hx⟩ : ∃ x, l[k]? = some x := ⟨_, List.getElem?_eq_getElem (by have := HL.out; omega)⟩
      obtain ⟨b, o, rfl, hb, a0, a1, a2, a3⟩ := ent_row HR1.out k x hx
      obtain ⟨b2, o2, rfl, hb2, b0, b1, b2, b3⟩ := ent_row HR2.out k x hx
      go_wp2_with fail
      go_quiet (fail)
      clear a0 a1 a2 a3 b0 b1 b2 b3
      go_wp2_with fail
      go_roundw
      case rel => exact ⟨k + 1, by omega, by simp, d + nq, rfl⟩
      case measure => simp [intOf]; omega
    · have : k = n := by omega
      subst this
      go_wp2
      go_ret
      exact ⟨rfl, below_drewN (Below.refl _ _) d⟩
def hopS (op : Int) (A : Option Addr) (z : Int) : Hp := ⟨op, A, 1, 1, [z], 0, -1, none, 0, 0, [], false⟩
def hopP : Hp := ⟨2, none, 0, 0, [], 0, -1, none, 0, 0, [], false⟩
theorem chkS (op : Int) (A : Option Addr) (z : Int) (hz : 16 ≤ z ∧ z ≤ 1048575) (ho : op = 0 ∨ op = 1) : (hopS op A z).chk = 0 := by
  have hp : pushB z = true := by unfold pushB; simp; omega
  unfold Hp.chk chkF hopS
  simp only [List.all_cons, List.all_nil, hp]
  rcases ho with rfl | rfl <;> simp
theorem do_swap (A : Option Addr) (z : Int) (hz : 16 ≤ z ∧ z ≤ 1048575) (x : Ent) (r : List Ent) (hx : ¬ x.ttl < 2) (hr : r.length + 1 ≤ 16) : doF (x :: r) (hopS 1 A z) = (⟨z, x.cls, x.bot, x.ttl - 1⟩ :: r, (false, 0, 0), 0) := by
  have hc := chkS 1 A z hz (.inr rfl)
  have hd : doF (x :: r) (hopS 1 A z) = if (hopS 1 A z).chk ≠ 0 ∨ (hopS 1 A z).op = 3 then ([], (false, 0, 0), 54) else if x.ttl < 2 then ([], (false, 0, 0), 56) else finF x (opF x (x :: r) (hopS 1 A z)) := rfl
  rw [hd, if_neg (by rw [hc]; show ¬ (_ ∨ (1 : Int) = 3); simp), if_neg hx]
  have ho : opF x (x :: r) (hopS 1 A z) = outE (⟨z, x.cls, x.bot, x.ttl - 1⟩ :: r) := by
    unfold opF
    have e : (hopS 1 A z).op = 1 := rfl
    rw [if_neg (by rw [e]; decide), if_pos e]
    rfl
  rw [ho]
  exact fin_fit x _ (by simp only [List.length_cons]; omega) (by simp)
theorem do_push (A : Option Addr) (z : Int) (hz : 16 ≤ z ∧ z ≤ 1048575) (x : Ent) (r : List Ent) (hx : ¬ x.ttl < 2) (hr : r.length + 2 ≤ 16) : doF (x :: r) (hopS 0 A z) = (⟨z, x.cls % 8, false, x.ttl - 1⟩ :: ⟨x.label, x.cls, x.bot, x.ttl - 1⟩ :: r, (false, 0, 0), 0) := by
  have hc := chkS 0 A z hz (.inl rfl)
  have hd : doF (x :: r) (hopS 0 A z) = if (hopS 0 A z).chk ≠ 0 ∨ (hopS 0 A z).op = 3 then ([], (false, 0, 0), 54) else if x.ttl < 2 then ([], (false, 0, 0), 56) else finF x (opF x (x :: r) (hopS 0 A z)) := rfl
  rw [hd, if_neg (by rw [hc]; show ¬ (_ ∨ (0 : Int) = 3); simp), if_neg hx]
  have ho : opF x (x :: r) (hopS 0 A z) = outE (⟨z, x.cls % 8, false, x.ttl - 1⟩ :: ⟨x.label, x.cls, x.bot, x.ttl - 1⟩ :: r) := by
    unfold opF
    have e : (hopS 0 A z).op = 0 := rfl
    rw [if_pos e]
    rfl
  rw [ho]
  exact fin_fit x _ (by simp only [List.length_cons]; omega) (by simp)
theorem do_pop (x e : Ent) (r : List Ent) (hx : ¬ x.ttl < 2) (he : x.ttl = e.ttl) (hr : r.length + 1 ≤ 16) : doF (x :: e :: r) hopP = (⟨e.label, classF x.cls e.cls false, e.bot, x.ttl - 1⟩ :: r, (false, 0, 0), 0) := by
  have hd : doF (x :: e :: r) hopP = if hopP.chk ≠ 0 ∨ hopP.op = 3 then ([], (false, 0, 0), 54) else if x.ttl < 2 then ([], (false, 0, 0), 56) else finF x (opF x (x :: e :: r) hopP) := rfl
  have hu : underF x.ttl e.ttl false = x.ttl := by unfold underF; simp; omega
  rw [hd, if_neg (by decide), if_neg hx]
  have ho : opF x (x :: e :: r) hopP = outE (⟨e.label, classF x.cls e.cls false, e.bot, x.ttl - 1⟩ :: r) := by
    have h1 : opF x (x :: e :: r) hopP = popF (x :: e :: r) false := rfl
    rw [h1]
    unfold popF belowF
    simp [hu, hx]
    try omega
  rw [ho]
  exact fin_fit x _ (by simp only [List.length_cons]; omega) (by simp)

set_option maxHeartbeats 4000000 in
theorem walk_RewriteTwice (w : World) (A : Option Addr) (n c : Nat) (l : List Ent) (h : Row w w.heap.size 4 A n (evs l)) (hc : n ≤ c) (hcm : c ≤ maxLen) (hwf : ∀ x ∈ l, x.wf) (ua : Int) (hu : 0 ≤ ua ∧ ua ≤ 65535) (vb : Int) (hv : 0 ≤ vb ∧ vb ≤ 65535) :
    Calls Try.prog 6 #[.slice A n c, .int .u16 ua, .int .u16 vb] w fun e w' => e = .returned (.bool true) ∧ Below w.heap.size w w' := by
  have HF := Lib.hid (fun x hx => (hwf x hx).fitR)
  have HR0 := Lib.hid h
  have HLEN := Lib.hid (ent_len h)
  clear h hwf
  go_enter Try.func6, Try.ntmps6
  go_wp2_with fail
  refine (awake20 _).mono ?_
  rintro e w2 ⟨rfl, hb2⟩
  have HW := Lib.hid hb2
  clear hb2
  match l, HLEN, HF, HR0 with
  | [], HLEN, HF, HR0 =>
    obtain rfl : n = 0 := by simpa using HLEN.out.symm
    go_wp2_with fail
    go_ret
    exact ⟨rfl, HW.out⟩
  | x :: r, HLEN, HF, HR0 =>
    have hn1 : 1 ≤ n := by have := HLEN.out; simp at this; omega
    have e0 : ((n : Int) == 0) = false := by simp; omega
    by_cases h15 : 15 < n
    · have h15i : (15 : Int) < (n : Int) := by omega
      go_wp2_with fail
      go_ret
      exact ⟨rfl, HW.out⟩
    · have h15i : ¬ (15 : Int) < (n : Int) := by omega
      obtain ⟨b, ob, hA, hbl, _, _, _, _⟩ := ent_row (HR0.out.below HW.out) 0 x rfl
      subst hA
      have q3 : w2.cell? ⟨b, ob + 3, none⟩ = some (.int .u8 x.ttl) := row_at (HR0.out.below HW.out) 3 rfl
      by_cases h3 : x.ttl < 3
      · go_wp2_with fail
        go_ret
        exact ⟨rfl, HW.out⟩
      · have fa := HF.out x (by simp)
        have hft := fa.ttl
        have HRL := Lib.hid (show r.length = n - 1 by have := HLEN.out; simp at this; omega)
        have HR := Lib.hid ((HR0.out.below HW.out).more HW.out.size)
        have hF2 : ∀ (y : Ent), y.fitR → ∀ z ∈ y :: r, z.fitR := fun y hy z hz => by
          rcases List.mem_cons.1 hz with rfl | hz
          · exact hy
          · exact HF.out z (by simp [hz])
        have HF2 := Lib.hid hF2
        clear hF2
        go_upto_region 8 with fail
        clear q3
        have P : Calls Try.prog 8 #[.slice (some ⟨b, ob, none⟩) n c, .agg #[.int .i64 1, .slice (some ⟨w2.heap.size, 0, none⟩) 1 1, .int .i64 0, .int .i64 (-1), .slice none 0 0, .bool false]] (w2.alloc (.cells #[.int .i64 (ua + 16)] 3)) fun e w' => ∃ A' c', e = .returned (.tuple #[.slice A' (n) c', .agg (leftC (false, 0, 0)).toArray, .int .i64 0]) ∧ Own w' (World.heap (w2.alloc (.cells #[.int .i64 (ua + 16)] 3))).size 46 4 A' (n) c' (evs (⟨ua + 16, x.cls, x.bot, x.ttl - 1⟩ :: r)) ∧ Below (World.heap (w2.alloc (.cells #[.int .i64 (ua + 16)] 3))).size (w2.alloc (.cells #[.int .i64 (ua + 16)] 3)) w' := by
          have hal := alloc_below w2 (.cells #[.int .i64 (ua + 16)] 3)
          have P := do_any (some ⟨b, ob, none⟩) n c (x :: r) (hopS 1 (some ⟨w2.heap.size, 0, none⟩) (ua + 16)) (w2.alloc (.cells #[.int .i64 (ua + 16)] 3)) ((HR.out.below hal).more hal.size) hc hcm (by omega) HF.out (hp_lit _ 1 (-1) _ 1 1 [ua + 16] (row_valsR w2 #[.int .i64 (ua + 16)] 1 _ rfl rfl) (by omega) (by simp only [maxLen]; omega) (by intro y hy; simp only [List.mem_singleton] at hy; subst hy; omega) (by omega) rfl)
          rw [do_swap _ (ua + 16) (by omega) x r (by omega) (by have := HRL.out; omega)] at P
          dsimp only at P
          rw [show ((⟨ua + 16, x.cls, x.bot, x.ttl - 1⟩ :: r) : List Ent).length = n by have := HRL.out; simp only [List.length_cons]; omega] at P
          exact P
        have HP := Lib.hid P
        clear P
        go_wp2_with fail
        refine HP.out.mono ?_
        rintro e wa ⟨A1, c1, rfl, hown, hb⟩
        have hba : Below w2.heap.size w2 wa := (alloc_below w2 _).trans (hb.mono (by simp))
        replace HR := Lib.hid ((HR.out.below hba).more hba.size)
        replace HW := Lib.hid (bthen HW.out hba)
        clear HP hb
        obtain ⟨k1, rfl, _, _, _, _⟩ := hown.open_ (by omega)
        have HO1 := Lib.hid hown
        clear hown hba
        go_upto_region 9 with (first
          | (refine wpList_alloc_blk (by rfl) 28 rfl (leftC (false, 0, 0)) zeroLeft ?_; intro wb hbb hBb hsb)
          | (refine wpList_store_all (by rfl) 28 _ _ rfl wa.heap.size (leftC (false, 0, 0)) rfl rfl 28 _ hbb (sizeLeft _) rfl (oneLeft _) ?_; intro w3 hbc hgc hsc))
        have hbd : Below wa.heap.size wa w3 := bgrown hBb hgc hBb.size (Nat.le_refl _)
        replace HR := Lib.hid ((HR.out.below hbd).more hbd.size)
        replace HW := Lib.hid (bthen HW.out hbd)
        replace HO1 := Lib.hid (HO1.out.below hbd)
        clear hbb hBb hsb hbc hgc hsc hbd
        have P : Calls Try.prog 8 #[.slice (some ⟨k1, 0, none⟩) n c1, .agg #[.int .i64 1, .slice (some ⟨w3.heap.size, 0, none⟩) 1 1, .int .i64 0, .int .i64 (-1), .slice none 0 0, .bool false]] (w3.alloc (.cells #[.int .i64 (vb + 16)] 3)) fun e w' => ∃ A' c', e = .returned (.tuple #[.slice A' (n) c', .agg (leftC (false, 0, 0)).toArray, .int .i64 0]) ∧ Own w' (World.heap (w3.alloc (.cells #[.int .i64 (vb + 16)] 3))).size 46 4 A' (n) c' (evs (⟨vb + 16, x.cls, x.bot, x.ttl - 2⟩ :: r)) ∧ Below (World.heap (w3.alloc (.cells #[.int .i64 (vb + 16)] 3))).size (w3.alloc (.cells #[.int .i64 (vb + 16)] 3)) w' := by
          have hal := alloc_below w3 (.cells #[.int .i64 (vb + 16)] 3)
          have P := do_any (some ⟨k1, 0, none⟩) n c1 (⟨ua + 16, x.cls, x.bot, x.ttl - 1⟩ :: r) (hopS 1 (some ⟨w3.heap.size, 0, none⟩) (vb + 16)) (w3.alloc (.cells #[.int .i64 (vb + 16)] 3)) ((HO1.out.below hal).row) HO1.out.le HO1.out.cap (by omega) (HF2.out _ ⟨by dsimp only; omega, fa.cls, by dsimp only; omega⟩) (hp_lit _ 1 (-1) _ 1 1 [vb + 16] (row_valsR w3 #[.int .i64 (vb + 16)] 1 _ rfl rfl) (by omega) (by simp only [maxLen]; omega) (by intro y hy; simp only [List.mem_singleton] at hy; subst hy; omega) (by omega) rfl)
          rw [do_swap _ (vb + 16) (by omega) ⟨ua + 16, x.cls, x.bot, x.ttl - 1⟩ r (by dsimp only; omega) (by have := HRL.out; omega), show (⟨ua + 16, x.cls, x.bot, x.ttl - 1⟩ : Ent).ttl - 1 = x.ttl - 2 by dsimp only; omega] at P
          dsimp only at P
          rw [show ((⟨vb + 16, x.cls, x.bot, x.ttl - 2⟩ :: r) : List Ent).length = n by have := HRL.out; simp only [List.length_cons]; omega] at P
          exact P
        have HP := Lib.hid P
        clear P
        go_wp2_with fail
        refine HP.out.mono ?_
        rintro e wa ⟨A2, c2, rfl, hown, hb⟩
        have hba : Below w3.heap.size w3 wa := (alloc_below w3 _).trans (hb.mono (by simp))
        replace HR := Lib.hid ((HR.out.below hba).more hba.size)
        replace HW := Lib.hid (bthen HW.out hba)
        replace HO1 := Lib.hid (HO1.out.below hba)
        clear HP hb
        obtain ⟨k2, rfl, _, _, _, _⟩ := hown.open_ (by omega)
        have HO2 := Lib.hid hown
        clear hown hba
        go_upto_region 10 with (first
          | (refine wpList_alloc_blk (by rfl) 28 rfl (leftC (false, 0, 0)) zeroLeft ?_; intro wb hbb hBb hsb)
          | (refine wpList_store_all (by rfl) 28 _ _ rfl wa.heap.size (leftC (false, 0, 0)) rfl rfl 28 _ hbb (sizeLeft _) rfl (oneLeft _) ?_; intro w4 hbc hgc hsc))
        have hbd : Below wa.heap.size wa w4 := bgrown hBb hgc hBb.size (Nat.le_refl _)
        replace HR := Lib.hid ((HR.out.below hbd).more hbd.size)
        replace HW := Lib.hid (bthen HW.out hbd)
        replace HO1 := Lib.hid (HO1.out.below hbd)
        replace HO2 := Lib.hid (HO2.out.below hbd)
        clear hbb hBb hsb hbc hgc hsc hbd
        have P : Calls Try.prog 8 #[.slice (some ⟨b, ob, none⟩) n c, .agg #[.int .i64 0, .slice (some ⟨w4.heap.size, 0, none⟩) 1 1, .int .i64 0, .int .i64 (-1), .slice none 0 0, .bool false]] (w4.alloc (.cells #[.int .i64 (ua + 16)] 3)) fun e w' => ∃ A' c', e = .returned (.tuple #[.slice A' (n + 1) c', .agg (leftC (false, 0, 0)).toArray, .int .i64 0]) ∧ Own w' (World.heap (w4.alloc (.cells #[.int .i64 (ua + 16)] 3))).size 46 4 A' (n + 1) c' (evs (⟨ua + 16, x.cls % 8, false, x.ttl - 1⟩ :: ⟨x.label, x.cls, x.bot, x.ttl - 1⟩ :: r)) ∧ Below (World.heap (w4.alloc (.cells #[.int .i64 (ua + 16)] 3))).size (w4.alloc (.cells #[.int .i64 (ua + 16)] 3)) w' := by
          have hal := alloc_below w4 (.cells #[.int .i64 (ua + 16)] 3)
          have P := do_any (some ⟨b, ob, none⟩) n c (x :: r) (hopS 0 (some ⟨w4.heap.size, 0, none⟩) (ua + 16)) (w4.alloc (.cells #[.int .i64 (ua + 16)] 3)) ((HR.out.below hal).more hal.size) hc hcm (by omega) HF.out (hp_lit _ 0 (-1) _ 1 1 [ua + 16] (row_valsR w4 #[.int .i64 (ua + 16)] 1 _ rfl rfl) (by omega) (by simp only [maxLen]; omega) (by intro y hy; simp only [List.mem_singleton] at hy; subst hy; omega) (by omega) rfl)
          rw [do_push _ (ua + 16) (by omega) x r (by omega) (by have := HRL.out; omega)] at P
          dsimp only at P
          rw [show ((⟨ua + 16, x.cls % 8, false, x.ttl - 1⟩ :: ⟨x.label, x.cls, x.bot, x.ttl - 1⟩ :: r) : List Ent).length = n + 1 by have := HRL.out; simp only [List.length_cons]; omega] at P
          exact P
        have HP := Lib.hid P
        clear P
        go_wp2_with fail
        refine HP.out.mono ?_
        rintro e wa ⟨A3, c3, rfl, hown, hb⟩
        have hba : Below w4.heap.size w4 wa := (alloc_below w4 _).trans (hb.mono (by simp))
        replace HR := Lib.hid ((HR.out.below hba).more hba.size)
        replace HW := Lib.hid (bthen HW.out hba)
        replace HO1 := Lib.hid (HO1.out.below hba)
        replace HO2 := Lib.hid (HO2.out.below hba)
        clear HP hb
        obtain ⟨k3, rfl, _, _, _, _⟩ := hown.open_ (by omega)
        have HO3 := Lib.hid hown
        clear hown hba
        go_upto_region 11 with (first
          | (refine wpList_alloc_blk (by rfl) 28 rfl (leftC (false, 0, 0)) zeroLeft ?_; intro wb hbb hBb hsb)
          | (refine wpList_store_all (by rfl) 28 _ _ rfl wa.heap.size (leftC (false, 0, 0)) rfl rfl 28 _ hbb (sizeLeft _) rfl (oneLeft _) ?_; intro w5 hbc hgc hsc))
        have hbd : Below wa.heap.size wa w5 := bgrown hBb hgc hBb.size (Nat.le_refl _)
        replace HR := Lib.hid ((HR.out.below hbd).more hbd.size)
        replace HW := Lib.hid (bthen HW.out hbd)
        replace HO1 := Lib.hid (HO1.out.below hbd)
        replace HO2 := Lib.hid (HO2.out.below hbd)
        replace HO3 := Lib.hid (HO3.out.below hbd)
        clear hbb hBb hsb hbc hgc hsc hbd
        have P : Calls Try.prog 8 #[.slice (some ⟨k3, 0, none⟩) (n + 1) c3, .agg #[.int .i64 2, .slice none 0 0, .int .i64 0, .int .i64 (-1), .slice none 0 0, .bool false]] w5 fun e w' => ∃ A' c', e = .returned (.tuple #[.slice A' (n) c', .agg (leftC (false, 0, 0)).toArray, .int .i64 0]) ∧ Own w' (World.heap w5).size 46 4 A' (n) c' (evs (⟨x.label, classF (x.cls % 8) x.cls false, x.bot, x.ttl - 2⟩ :: r)) ∧ Below (World.heap w5).size w5 w' := by
          skip
          have P := do_any (some ⟨k3, 0, none⟩) (n + 1) c3 (⟨ua + 16, x.cls % 8, false, x.ttl - 1⟩ :: ⟨x.label, x.cls, x.bot, x.ttl - 1⟩ :: r) hopP w5 HO3.out.row HO3.out.le HO3.out.cap (by omega) (fun z hz => by
            rcases List.mem_cons.1 hz with rfl | hz
            · exact ⟨by dsimp only; omega, by have := fa.cls; dsimp only; omega, by dsimp only; omega⟩
            · exact HF2.out ⟨x.label, x.cls, x.bot, x.ttl - 1⟩ ⟨fa.label, fa.cls, by dsimp only; omega⟩ z hz) (hp_lit _ 2 (-1) none 0 0 [] (Row.nil _ _ _ _) (by omega) (by omega) (by simp) (by omega) rfl)
          rw [do_pop ⟨ua + 16, x.cls % 8, false, x.ttl - 1⟩ ⟨x.label, x.cls, x.bot, x.ttl - 1⟩ r (by dsimp only; omega) rfl (by have := HRL.out; omega), show (⟨ua + 16, x.cls % 8, false, x.ttl - 1⟩ : Ent).ttl - 1 = x.ttl - 2 by dsimp only; omega] at P
          dsimp only at P
          rw [show ((⟨x.label, classF (x.cls % 8) x.cls false, x.bot, x.ttl - 2⟩ :: r) : List Ent).length = n by have := HRL.out; simp only [List.length_cons]; omega] at P
          exact P
        have HP := Lib.hid P
        clear P
        go_wp2_with fail
        refine HP.out.mono ?_
        rintro e wa ⟨A4, c4, rfl, hown, hb⟩
        have hba : Below w5.heap.size w5 wa := hb
        replace HR := Lib.hid ((HR.out.below hba).more hba.size)
        replace HW := Lib.hid (bthen HW.out hba)
        replace HO1 := Lib.hid (HO1.out.below hba)
        replace HO2 := Lib.hid (HO2.out.below hba)
        replace HO3 := Lib.hid (HO3.out.below hba)
        clear HP hb
        obtain ⟨k4, rfl, _, _, _, _⟩ := hown.open_ (by omega)
        have HO4 := Lib.hid hown
        clear hown hba
        go_upto_region 12 with (first
          | (refine wpList_alloc_blk (by rfl) 28 rfl (leftC (false, 0, 0)) zeroLeft ?_; intro wb hbb hBb hsb)
          | (refine wpList_store_all (by rfl) 28 _ _ rfl wa.heap.size (leftC (false, 0, 0)) rfl rfl 28 _ hbb (sizeLeft _) rfl (oneLeft _) ?_; intro w6 hbc hgc hsc))
        have hbd : Below wa.heap.size wa w6 := bgrown hBb hgc hBb.size (Nat.le_refl _)
        replace HR := Lib.hid ((HR.out.below hbd).more hbd.size)
        replace HW := Lib.hid (bthen HW.out hbd)
        replace HO1 := Lib.hid (HO1.out.below hbd)
        replace HO2 := Lib.hid (HO2.out.below hbd)
        replace HO3 := Lib.hid (HO3.out.below hbd)
        replace HO4 := Lib.hid (HO4.out.below hbd)
        clear hbb hBb hsb hbc hgc hsc hbd
        go_upto_region 14 with fail
        have z3 : w6.cell? ⟨b, ob + 3, none⟩ = some (.int .u8 x.ttl) := row_at HR.out 3 rfl
        have hsub : (x.ttl - 2) = x.ttl - 2 := rfl
        go_upto_region 15 with fail
        clear z3
        try rw [show IntKind.u8.wrap (x.ttl - 2) = x.ttl - 2 by simp only [IntKind.wrap_u8]; omega]
        have hc2 := HO2.out.row.cut (k := 1) (cap := c2) (by omega) HO2.out.le
        have hc4 := HO4.out.row.cut (k := 1) (cap := c4) (by omega) HO4.out.le
        have hc0 := HR.out.cut (k := 1) (cap := c) (by omega) hc
        rw [addr_addR] at hc2 hc4 hc0
        have HC2 := Lib.hid (show Row w6 w6.heap.size 4 (if c2 = 1 then some ⟨k2, 0, none⟩ else some ⟨k2, 0 + 1 * 4, none⟩) (n - 1) (evs r) from hc2)
        have HC4 := Lib.hid (show Row w6 w6.heap.size 4 (if c4 = 1 then some ⟨k4, 0, none⟩ else some ⟨k4, 0 + 1 * 4, none⟩) (n - 1) (evs r) from hc4)
        have HC0 := Lib.hid (show Row w6 w6.heap.size 4 (if c = 1 then some ⟨b, ob, none⟩ else some ⟨b, ob + 1 * 4, none⟩) (n - 1) (evs r) from hc0)
        have hle2 := HO2.out.le
        have hle4 := HO4.out.le
        clear hc2 hc4 hc0
        refine wp_region_rel (fun A B => A.grownBy B none) (fun A => grown_refl A _) (fun A B C h k => grown_trans h k) (relAt (List.cons (fun v _ => v = .slice (some ⟨k2, 0, none⟩) n c2) (List.cons (fun v _ => v = .pointer (some ⟨k2, 0, none⟩)) (List.cons (fun v _ => v = .pointer (some ⟨k2, 0, none⟩)) (List.cons (fun v _ => v = .int .i64 (vb + 16)) (List.cons (fun v _ => v = .int .i64 (vb + 16)) (List.cons (fun v _ => v = .bool true) (List.cons (fun v _ => v = .bool true) (List.cons (fun v _ => v = .slice (some ⟨k2, 0, none⟩) n c2) (List.cons (fun v _ => v = .pointer (some ⟨k2, 0, none⟩)) (List.cons (fun v _ => v = .pointer (some ⟨k2, 3, none⟩)) (List.cons (fun v _ => v = .int .u8 (x.ttl - 2)) (List.cons (fun v _ => v = .int .u8 (x.ttl - 2)) (List.cons (fun v _ => v = .bool true) (List.cons (fun v _ => v = .bool true) (List.cons (fun v _ => v = .bool true) (List.cons (fun v _ => v = .slice (some ⟨k2, 0, none⟩) n c2) (List.cons (fun v _ => v = .pointer (some ⟨k2, 0, none⟩)) (List.cons (fun v _ => v = .pointer (some ⟨k2, 1, none⟩)) (List.cons (fun v _ => v = .int .u8 (x.cls)) (List.cons (fun v _ => v = .slice (some ⟨b, ob, none⟩) n c) (List.cons (fun v _ => v = .pointer (some ⟨b, ob, none⟩)) (List.cons (fun v _ => v = .pointer (some ⟨b, ob + 1, none⟩)) (List.cons (fun v _ => v = .int .u8 (x.cls)) (List.cons (fun v _ => v = .bool true) (List.cons (fun v _ => v = .bool true) (List.cons (fun v _ => v = .bool true) (List.cons (fun v _ => v = .slice (some ⟨k4, 0, none⟩) n c4) (List.cons (fun v _ => v = .pointer (some ⟨k4, 0, none⟩)) (List.cons (fun v _ => v = .pointer (some ⟨k4, 0, none⟩)) (List.cons (fun v _ => v = .int .i64 (x.label)) (List.cons (fun v _ => v = .slice (some ⟨b, ob, none⟩) n c) (List.cons (fun v _ => v = .pointer (some ⟨b, ob, none⟩)) (List.cons (fun v _ => v = .pointer (some ⟨b, ob, none⟩)) (List.cons (fun v _ => v = .int .i64 (x.label)) (List.cons (fun v _ => v = .bool true) (List.cons (fun v _ => v = .bool true) (List.cons (fun v _ => v = .bool true) (List.cons (fun v _ => v = .slice (some ⟨k4, 0, none⟩) n c4) (List.cons (fun v _ => v = .pointer (some ⟨k4, 0, none⟩)) (List.cons (fun v _ => v = .pointer (some ⟨k4, 3, none⟩)) (List.cons (fun v _ => v = .int .u8 (x.ttl - 2)) (List.cons (fun v _ => v = .int .u8 (x.ttl - 2)) (List.cons (fun v _ => v = .bool true) (List.cons (fun v _ => v = .bool true) (List.cons (fun v _ => v = .bool true) (List.cons (fun v _ => v = .slice (some ⟨k2, 0, none⟩) n c2) (List.cons (fun v W => ∃ X d, v = .slice X (n - 1) d ∧ Row W W.heap.size 4 X (n - 1) (evs r)) (List.cons (fun v _ => v = .slice (some ⟨b, ob, none⟩) n c) (List.cons (fun v W => ∃ X d, v = .slice X (n - 1) d ∧ Row W W.heap.size 4 X (n - 1) (evs r)) (List.cons (fun v _ => v = .bool true) (List.cons (fun v _ => v = .bool true) (List.cons (fun v _ => v = .bool true) (List.cons (fun v _ => v = .slice (some ⟨k4, 0, none⟩) n c4) (List.cons (fun v W => ∃ X d, v = .slice X (n - 1) d ∧ Row W W.heap.size 4 X (n - 1) (evs r)) (List.cons (fun v _ => v = .slice (some ⟨b, ob, none⟩) n c) (List.cons (fun v W => ∃ X d, v = .slice X (n - 1) d ∧ Row W W.heap.size 4 X (n - 1) (evs r)) (List.cons (fun v _ => v = .bool true) (List.cons (fun v _ => v = .bool true) (List.cons (fun v _ => v = .bool true) ([]))))))))))))))))))))))))))))))))))))))))))))))))))))))))))))) (MonoL.at_ (.cons (mono_val _) (.cons (mono_val _) (.cons (mono_val _) (.cons (mono_val _) (.cons (mono_val _) (.cons (mono_val _) (.cons (mono_val _) (.cons (mono_val _) (.cons (mono_val _) (.cons (mono_val _) (.cons (mono_val _) (.cons (mono_val _) (.cons (mono_val _) (.cons (mono_val _) (.cons (mono_val _) (.cons (mono_val _) (.cons (mono_val _) (.cons (mono_val _) (.cons (mono_val _) (.cons (mono_val _) (.cons (mono_val _) (.cons (mono_val _) (.cons (mono_val _) (.cons (mono_val _) (.cons (mono_val _) (.cons (mono_val _) (.cons (mono_val _) (.cons (mono_val _) (.cons (mono_val _) (.cons (mono_val _) (.cons (mono_val _) (.cons (mono_val _) (.cons (mono_val _) (.cons (mono_val _) (.cons (mono_val _) (.cons (mono_val _) (.cons (mono_val _) (.cons (mono_val _) (.cons (mono_val _) (.cons (mono_val _) (.cons (mono_val _) (.cons (mono_val _) (.cons (mono_val _) (.cons (mono_val _) (.cons (mono_val _) (.cons (mono_val _) (.cons (fun _ _ _ ⟨X, d, hv, h⟩ hg => ⟨X, d, hv, (h.below (grow_below hg)).more hg.size⟩) (.cons (mono_val _) (.cons (fun _ _ _ ⟨X, d, hv, h⟩ hg => ⟨X, d, hv, (h.below (grow_below hg)).more hg.size⟩) (.cons (mono_val _) (.cons (mono_val _) (.cons (mono_val _) (.cons (mono_val _) (.cons (fun _ _ _ ⟨X, d, hv, h⟩ hg => ⟨X, d, hv, (h.below (grow_below hg)).more hg.size⟩) (.cons (mono_val _) (.cons (fun _ _ _ ⟨X, d, hv, h⟩ hg => ⟨X, d, hv, (h.below (grow_below hg)).more hg.size⟩) (.cons (mono_val _) (.cons (mono_val _) (.cons (mono_val _) .nil)))))))))))))))))))))))))))))))))))))))))))))))))))))))))))) (by kernel_rfl) (by kernel_rfl) ⟨?_, ?_, ?_, ?_, ?_, ?_, ?_, ?_, ?_, ?_, ?_, ?_, ?_, ?_, ?_, ?_, ?_, ?_, ?_, ?_, ?_, ?_, ?_, ?_, ?_, ?_, ?_, ?_, ?_, ?_, ?_, ?_, ?_, ?_, ?_, ?_, ?_, ?_, ?_, ?_, ?_, ?_, ?_, ?_, ?_, ?_, ?_, ?_, ?_, ?_, ?_, ?_, ?_, ?_, ?_, ?_, ?_, ?_, ?_, trivial⟩ ?_
        · intro a vs W hX hR he hf K hK
          rw [if_pos (wanted_none rfl)]
          have e13 : a.eval (.tmp 13) = .slice (some ⟨k2, 0, none⟩) n c2 := hf 13 (by kernel_rfl)
          refine wp_value (v := .slice (some ⟨k2, 0, none⟩) n c2) ?_ (hK _ _ rfl (grown_refl W _))
          simp only [execOp, e13]
          try go_simp
          try (first | rfl | omega | (simp only [IntKind.wrap_i64, IntKind.wrap_u8, IntKind.wrap_u64, IntKind.wrap_u16, IntKind.wrap_u32]; omega) | (rw [Int.tmod_eq_emod_of_nonneg (by omega)]) | (rw [Int.tmod_eq_emod_of_nonneg (by omega)]; omega))
        · intro a vs W hX hR he hf K hK
          rw [if_pos (wanted_none rfl)]
          have e122 : a.eval (.tmp 122) = .slice (some ⟨k2, 0, none⟩) n c2 := (he 0 122 (by kernel_rfl) rfl).trans (hR 0 (by kernel_rfl))
          refine wp_value (v := .pointer (some ⟨k2, 0, none⟩)) ?_ (hK _ _ rfl (grown_refl W _))
          simp only [execOp, e122]
          try go_simp
          try (first | rfl | omega | (simp only [IntKind.wrap_i64, IntKind.wrap_u8, IntKind.wrap_u64, IntKind.wrap_u16, IntKind.wrap_u32]; omega) | (rw [Int.tmod_eq_emod_of_nonneg (by omega)]) | (rw [Int.tmod_eq_emod_of_nonneg (by omega)]; omega))
        · intro a vs W hX hR he hf K hK
          rw [if_pos (wanted_none rfl)]
          have e123 : a.eval (.tmp 123) = .pointer (some ⟨k2, 0, none⟩) := (he 1 123 (by kernel_rfl) rfl).trans (hR 1 (by kernel_rfl))
          refine wp_value (v := .pointer (some ⟨k2, 0, none⟩)) ?_ (hK _ _ rfl (grown_refl W _))
          simp only [execOp, e123]
          try go_simp
          try (first | rfl | omega | (simp only [IntKind.wrap_i64, IntKind.wrap_u8, IntKind.wrap_u64, IntKind.wrap_u16, IntKind.wrap_u32]; omega) | (rw [Int.tmod_eq_emod_of_nonneg (by omega)]) | (rw [Int.tmod_eq_emod_of_nonneg (by omega)]; omega))
        · intro a vs W hX hR he hf K hK
          rw [if_pos (wanted_none rfl)]
          have e124 : a.eval (.tmp 124) = .pointer (some ⟨k2, 0, none⟩) := (he 2 124 (by kernel_rfl) rfl).trans (hR 2 (by kernel_rfl))
          have hbW := bthen (below_drew _) (grow_below hX)
          have hq : W.cell? ⟨k2, 0, none⟩ = some (.int .i64 (vb + 16)) := row_at (HO2.out.row.below hbW) 0 rfl
          refine wp_value (v := _) ?_ (hK _ _ rfl (grown_refl W _))
          simp only [execOp, e124]
          go_simp
        · intro a vs W hX hR he hf K hK
          rw [if_pos (wanted_none rfl)]
          have e9 : a.eval (.tmp 9) = .int .i64 (vb + 16) := hf 9 (by kernel_rfl)
          refine wp_value (v := .int .i64 (vb + 16)) ?_ (hK _ _ rfl (grown_refl W _))
          simp only [execOp, e9]
          try go_simp
          try (first | rfl | omega | (simp only [IntKind.wrap_i64, IntKind.wrap_u8, IntKind.wrap_u64, IntKind.wrap_u16, IntKind.wrap_u32]; omega) | (rw [Int.tmod_eq_emod_of_nonneg (by omega)]) | (rw [Int.tmod_eq_emod_of_nonneg (by omega)]; omega))
        · intro a vs W hX hR he hf K hK
          rw [if_pos (wanted_none rfl)]
          have e125 : a.eval (.tmp 125) = .int .i64 (vb + 16) := (he 3 125 (by kernel_rfl) rfl).trans (hR 3 (by kernel_rfl))
          have e126 : a.eval (.tmp 126) = .int .i64 (vb + 16) := (he 4 126 (by kernel_rfl) rfl).trans (hR 4 (by kernel_rfl))
          refine wp_value (v := .bool true) ?_ (hK _ _ rfl (grown_refl W _))
          simp only [execOp, e125, e126]
          try go_simp
          try (first | rfl | omega | (simp only [IntKind.wrap_i64, IntKind.wrap_u8, IntKind.wrap_u64, IntKind.wrap_u16, IntKind.wrap_u32]; omega) | (rw [Int.tmod_eq_emod_of_nonneg (by omega)]) | (rw [Int.tmod_eq_emod_of_nonneg (by omega)]; omega))
        · intro a vs W hX hR he hf K hK
          rw [if_pos (wanted_none rfl)]
          have e127 : a.eval (.tmp 127) = .bool true := (he 5 127 (by kernel_rfl) rfl).trans (hR 5 (by kernel_rfl))
          refine wp_value (v := .bool true) ?_ (hK _ _ rfl (grown_refl W _))
          simp only [execOp, e127]
          try go_simp
          try (first | rfl | omega | (simp only [IntKind.wrap_i64, IntKind.wrap_u8, IntKind.wrap_u64, IntKind.wrap_u16, IntKind.wrap_u32]; omega) | (rw [Int.tmod_eq_emod_of_nonneg (by omega)]) | (rw [Int.tmod_eq_emod_of_nonneg (by omega)]; omega))
        · intro a vs W hX hR he hf K hK
          have e128 : a.eval (.tmp 128) = .bool true := (he 6 128 (by kernel_rfl) rfl).trans (hR 6 (by kernel_rfl))
          refine Eq.mpr (if_pos (by exact (wanted_some rfl rfl e128).trans rfl)) ?_
          have e13 : a.eval (.tmp 13) = .slice (some ⟨k2, 0, none⟩) n c2 := hf 13 (by kernel_rfl)
          refine wp_value (v := .slice (some ⟨k2, 0, none⟩) n c2) ?_ (hK _ _ rfl (grown_refl W _))
          simp only [execOp, e13]
          try go_simp
          try (first | rfl | omega | (simp only [IntKind.wrap_i64, IntKind.wrap_u8, IntKind.wrap_u64, IntKind.wrap_u16, IntKind.wrap_u32]; omega) | (rw [Int.tmod_eq_emod_of_nonneg (by omega)]) | (rw [Int.tmod_eq_emod_of_nonneg (by omega)]; omega))
        · intro a vs W hX hR he hf K hK
          have e128 : a.eval (.tmp 128) = .bool true := (he 6 128 (by kernel_rfl) rfl).trans (hR 6 (by kernel_rfl))
          refine Eq.mpr (if_pos (by exact (wanted_some rfl rfl e128).trans rfl)) ?_
          have e129 : a.eval (.tmp 129) = .slice (some ⟨k2, 0, none⟩) n c2 := (he 7 129 (by kernel_rfl) rfl).trans (hR 7 (by kernel_rfl))
          refine wp_value (v := .pointer (some ⟨k2, 0, none⟩)) ?_ (hK _ _ rfl (grown_refl W _))
          simp only [execOp, e129]
          try go_simp
          try (first | rfl | omega | (simp only [IntKind.wrap_i64, IntKind.wrap_u8, IntKind.wrap_u64, IntKind.wrap_u16, IntKind.wrap_u32]; omega) | (rw [Int.tmod_eq_emod_of_nonneg (by omega)]) | (rw [Int.tmod_eq_emod_of_nonneg (by omega)]; omega))
        · intro a vs W hX hR he hf K hK
          have e128 : a.eval (.tmp 128) = .bool true := (he 6 128 (by kernel_rfl) rfl).trans (hR 6 (by kernel_rfl))
          refine Eq.mpr (if_pos (by exact (wanted_some rfl rfl e128).trans rfl)) ?_
          have e130 : a.eval (.tmp 130) = .pointer (some ⟨k2, 0, none⟩) := (he 8 130 (by kernel_rfl) rfl).trans (hR 8 (by kernel_rfl))
          refine wp_value (v := .pointer (some ⟨k2, 3, none⟩)) ?_ (hK _ _ rfl (grown_refl W _))
          simp only [execOp, e130]
          try go_simp
          try (first | rfl | omega | (simp only [IntKind.wrap_i64, IntKind.wrap_u8, IntKind.wrap_u64, IntKind.wrap_u16, IntKind.wrap_u32]; omega) | (rw [Int.tmod_eq_emod_of_nonneg (by omega)]) | (rw [Int.tmod_eq_emod_of_nonneg (by omega)]; omega))
        · intro a vs W hX hR he hf K hK
          have e128 : a.eval (.tmp 128) = .bool true := (he 6 128 (by kernel_rfl) rfl).trans (hR 6 (by kernel_rfl))
          refine Eq.mpr (if_pos (by exact (wanted_some rfl rfl e128).trans rfl)) ?_
          have e131 : a.eval (.tmp 131) = .pointer (some ⟨k2, 3, none⟩) := (he 9 131 (by kernel_rfl) rfl).trans (hR 9 (by kernel_rfl))
          have hbW := bthen (below_drew _) (grow_below hX)
          have hq : W.cell? ⟨k2, 3, none⟩ = some (.int .u8 (x.ttl - 2)) := row_at (HO2.out.row.below hbW) 3 rfl
          refine wp_value (v := _) ?_ (hK _ _ rfl (grown_refl W _))
          simp only [execOp, e131]
          go_simp
        · intro a vs W hX hR he hf K hK
          have e128 : a.eval (.tmp 128) = .bool true := (he 6 128 (by kernel_rfl) rfl).trans (hR 6 (by kernel_rfl))
          refine Eq.mpr (if_pos (by exact (wanted_some rfl rfl e128).trans rfl)) ?_
          have e22 : a.eval (.tmp 22) = .int .u8 (x.ttl - 2) := hf 22 (by kernel_rfl)
          refine wp_value (v := .int .u8 (x.ttl - 2)) ?_ (hK _ _ rfl (grown_refl W _))
          simp only [execOp, e22]
          try go_simp
          try (first | rfl | omega | (simp only [IntKind.wrap_i64, IntKind.wrap_u8, IntKind.wrap_u64, IntKind.wrap_u16, IntKind.wrap_u32]; omega) | (rw [Int.tmod_eq_emod_of_nonneg (by omega)]) | (rw [Int.tmod_eq_emod_of_nonneg (by omega)]; omega))
        · intro a vs W hX hR he hf K hK
          have e128 : a.eval (.tmp 128) = .bool true := (he 6 128 (by kernel_rfl) rfl).trans (hR 6 (by kernel_rfl))
          refine Eq.mpr (if_pos (by exact (wanted_some rfl rfl e128).trans rfl)) ?_
          have e132 : a.eval (.tmp 132) = .int .u8 (x.ttl - 2) := (he 10 132 (by kernel_rfl) rfl).trans (hR 10 (by kernel_rfl))
          have e133 : a.eval (.tmp 133) = .int .u8 (x.ttl - 2) := (he 11 133 (by kernel_rfl) rfl).trans (hR 11 (by kernel_rfl))
          refine wp_value (v := .bool true) ?_ (hK _ _ rfl (grown_refl W _))
          simp only [execOp, e132, e133]
          try go_simp
          try (first | rfl | omega | (simp only [IntKind.wrap_i64, IntKind.wrap_u8, IntKind.wrap_u64, IntKind.wrap_u16, IntKind.wrap_u32]; omega) | (rw [Int.tmod_eq_emod_of_nonneg (by omega)]) | (rw [Int.tmod_eq_emod_of_nonneg (by omega)]; omega))
        · intro a vs W hX hR he hf K hK
          rw [if_pos (wanted_none rfl)]
          have e128 : a.eval (.tmp 128) = .bool true := (he 6 128 (by kernel_rfl) rfl).trans (hR 6 (by kernel_rfl))
          have e134 : a.eval (.tmp 134) = .bool true := (he 12 134 (by kernel_rfl) rfl).trans (hR 12 (by kernel_rfl))
          refine wp_value (v := .bool true) ?_ (hK _ _ rfl (grown_refl W _))
          simp only [execOp, e128, e134]
          try go_simp
          try (first | rfl | omega | (simp only [IntKind.wrap_i64, IntKind.wrap_u8, IntKind.wrap_u64, IntKind.wrap_u16, IntKind.wrap_u32]; omega) | (rw [Int.tmod_eq_emod_of_nonneg (by omega)]) | (rw [Int.tmod_eq_emod_of_nonneg (by omega)]; omega))
        · intro a vs W hX hR he hf K hK
          rw [if_pos (wanted_none rfl)]
          have e135 : a.eval (.tmp 135) = .bool true := (he 13 135 (by kernel_rfl) rfl).trans (hR 13 (by kernel_rfl))
          refine wp_value (v := .bool true) ?_ (hK _ _ rfl (grown_refl W _))
          simp only [execOp, e135]
          try go_simp
          try (first | rfl | omega | (simp only [IntKind.wrap_i64, IntKind.wrap_u8, IntKind.wrap_u64, IntKind.wrap_u16, IntKind.wrap_u32]; omega) | (rw [Int.tmod_eq_emod_of_nonneg (by omega)]) | (rw [Int.tmod_eq_emod_of_nonneg (by omega)]; omega))
        · intro a vs W hX hR he hf K hK
          have e136 : a.eval (.tmp 136) = .bool true := (he 14 136 (by kernel_rfl) rfl).trans (hR 14 (by kernel_rfl))
          refine Eq.mpr (if_pos (by exact (wanted_some rfl rfl e136).trans rfl)) ?_
          have e13 : a.eval (.tmp 13) = .slice (some ⟨k2, 0, none⟩) n c2 := hf 13 (by kernel_rfl)
          refine wp_value (v := .slice (some ⟨k2, 0, none⟩) n c2) ?_ (hK _ _ rfl (grown_refl W _))
          simp only [execOp, e13]
          try go_simp
          try (first | rfl | omega | (simp only [IntKind.wrap_i64, IntKind.wrap_u8, IntKind.wrap_u64, IntKind.wrap_u16, IntKind.wrap_u32]; omega) | (rw [Int.tmod_eq_emod_of_nonneg (by omega)]) | (rw [Int.tmod_eq_emod_of_nonneg (by omega)]; omega))
        · intro a vs W hX hR he hf K hK
          have e136 : a.eval (.tmp 136) = .bool true := (he 14 136 (by kernel_rfl) rfl).trans (hR 14 (by kernel_rfl))
          refine Eq.mpr (if_pos (by exact (wanted_some rfl rfl e136).trans rfl)) ?_
          have e137 : a.eval (.tmp 137) = .slice (some ⟨k2, 0, none⟩) n c2 := (he 15 137 (by kernel_rfl) rfl).trans (hR 15 (by kernel_rfl))
          refine wp_value (v := .pointer (some ⟨k2, 0, none⟩)) ?_ (hK _ _ rfl (grown_refl W _))
          simp only [execOp, e137]
          try go_simp
          try (first | rfl | omega | (simp only [IntKind.wrap_i64, IntKind.wrap_u8, IntKind.wrap_u64, IntKind.wrap_u16, IntKind.wrap_u32]; omega) | (rw [Int.tmod_eq_emod_of_nonneg (by omega)]) | (rw [Int.tmod_eq_emod_of_nonneg (by omega)]; omega))
        · intro a vs W hX hR he hf K hK
          have e136 : a.eval (.tmp 136) = .bool true := (he 14 136 (by kernel_rfl) rfl).trans (hR 14 (by kernel_rfl))
          refine Eq.mpr (if_pos (by exact (wanted_some rfl rfl e136).trans rfl)) ?_
          have e138 : a.eval (.tmp 138) = .pointer (some ⟨k2, 0, none⟩) := (he 16 138 (by kernel_rfl) rfl).trans (hR 16 (by kernel_rfl))
          refine wp_value (v := .pointer (some ⟨k2, 1, none⟩)) ?_ (hK _ _ rfl (grown_refl W _))
          simp only [execOp, e138]
          try go_simp
          try (first | rfl | omega | (simp only [IntKind.wrap_i64, IntKind.wrap_u8, IntKind.wrap_u64, IntKind.wrap_u16, IntKind.wrap_u32]; omega) | (rw [Int.tmod_eq_emod_of_nonneg (by omega)]) | (rw [Int.tmod_eq_emod_of_nonneg (by omega)]; omega))
        · intro a vs W hX hR he hf K hK
          have e136 : a.eval (.tmp 136) = .bool true := (he 14 136 (by kernel_rfl) rfl).trans (hR 14 (by kernel_rfl))
          refine Eq.mpr (if_pos (by exact (wanted_some rfl rfl e136).trans rfl)) ?_
          have e139 : a.eval (.tmp 139) = .pointer (some ⟨k2, 1, none⟩) := (he 17 139 (by kernel_rfl) rfl).trans (hR 17 (by kernel_rfl))
          have hbW := bthen (below_drew _) (grow_below hX)
          have hq : W.cell? ⟨k2, 1, none⟩ = some (.int .u8 (x.cls)) := row_at (HO2.out.row.below hbW) 1 rfl
          refine wp_value (v := _) ?_ (hK _ _ rfl (grown_refl W _))
          simp only [execOp, e139]
          go_simp
        · intro a vs W hX hR he hf K hK
          have e136 : a.eval (.tmp 136) = .bool true := (he 14 136 (by kernel_rfl) rfl).trans (hR 14 (by kernel_rfl))
          refine Eq.mpr (if_pos (by exact (wanted_some rfl rfl e136).trans rfl)) ?_
          have e0 : a.eval (.tmp 0) = .slice (some ⟨b, ob, none⟩) n c := hf 0 (by kernel_rfl)
          refine wp_value (v := .slice (some ⟨b, ob, none⟩) n c) ?_ (hK _ _ rfl (grown_refl W _))
          simp only [execOp, e0]
          try go_simp
          try (first | rfl | omega | (simp only [IntKind.wrap_i64, IntKind.wrap_u8, IntKind.wrap_u64, IntKind.wrap_u16, IntKind.wrap_u32]; omega) | (rw [Int.tmod_eq_emod_of_nonneg (by omega)]) | (rw [Int.tmod_eq_emod_of_nonneg (by omega)]; omega))
        · intro a vs W hX hR he hf K hK
          have e136 : a.eval (.tmp 136) = .bool true := (he 14 136 (by kernel_rfl) rfl).trans (hR 14 (by kernel_rfl))
          refine Eq.mpr (if_pos (by exact (wanted_some rfl rfl e136).trans rfl)) ?_
          have e141 : a.eval (.tmp 141) = .slice (some ⟨b, ob, none⟩) n c := (he 19 141 (by kernel_rfl) rfl).trans (hR 19 (by kernel_rfl))
          refine wp_value (v := .pointer (some ⟨b, ob, none⟩)) ?_ (hK _ _ rfl (grown_refl W _))
          simp only [execOp, e141]
          try go_simp
          try (first | rfl | omega | (simp only [IntKind.wrap_i64, IntKind.wrap_u8, IntKind.wrap_u64, IntKind.wrap_u16, IntKind.wrap_u32]; omega) | (rw [Int.tmod_eq_emod_of_nonneg (by omega)]) | (rw [Int.tmod_eq_emod_of_nonneg (by omega)]; omega))
        · intro a vs W hX hR he hf K hK
          have e136 : a.eval (.tmp 136) = .bool true := (he 14 136 (by kernel_rfl) rfl).trans (hR 14 (by kernel_rfl))
          refine Eq.mpr (if_pos (by exact (wanted_some rfl rfl e136).trans rfl)) ?_
          have e142 : a.eval (.tmp 142) = .pointer (some ⟨b, ob, none⟩) := (he 20 142 (by kernel_rfl) rfl).trans (hR 20 (by kernel_rfl))
          refine wp_value (v := .pointer (some ⟨b, ob + 1, none⟩)) ?_ (hK _ _ rfl (grown_refl W _))
          simp only [execOp, e142]
          try go_simp
          try (first | rfl | omega | (simp only [IntKind.wrap_i64, IntKind.wrap_u8, IntKind.wrap_u64, IntKind.wrap_u16, IntKind.wrap_u32]; omega) | (rw [Int.tmod_eq_emod_of_nonneg (by omega)]) | (rw [Int.tmod_eq_emod_of_nonneg (by omega)]; omega))
        · intro a vs W hX hR he hf K hK
          have e136 : a.eval (.tmp 136) = .bool true := (he 14 136 (by kernel_rfl) rfl).trans (hR 14 (by kernel_rfl))
          refine Eq.mpr (if_pos (by exact (wanted_some rfl rfl e136).trans rfl)) ?_
          have e143 : a.eval (.tmp 143) = .pointer (some ⟨b, ob + 1, none⟩) := (he 21 143 (by kernel_rfl) rfl).trans (hR 21 (by kernel_rfl))
          have hbW := bthen (below_drew _) (grow_below hX)
          have hq : W.cell? ⟨b, ob + 1, none⟩ = some (.int .u8 (x.cls)) := row_at (HR.out.below hbW) 1 rfl
          refine wp_value (v := _) ?_ (hK _ _ rfl (grown_refl W _))
          simp only [execOp, e143]
          go_simp
        · intro a vs W hX hR he hf K hK
          have e136 : a.eval (.tmp 136) = .bool true := (he 14 136 (by kernel_rfl) rfl).trans (hR 14 (by kernel_rfl))
          refine Eq.mpr (if_pos (by exact (wanted_some rfl rfl e136).trans rfl)) ?_
          have e140 : a.eval (.tmp 140) = .int .u8 (x.cls) := (he 18 140 (by kernel_rfl) rfl).trans (hR 18 (by kernel_rfl))
          have e144 : a.eval (.tmp 144) = .int .u8 (x.cls) := (he 22 144 (by kernel_rfl) rfl).trans (hR 22 (by kernel_rfl))
          refine wp_value (v := .bool true) ?_ (hK _ _ rfl (grown_refl W _))
          simp only [execOp, e140, e144]
          try go_simp
          try (first | rfl | omega | (simp only [IntKind.wrap_i64, IntKind.wrap_u8, IntKind.wrap_u64, IntKind.wrap_u16, IntKind.wrap_u32]; omega) | (rw [Int.tmod_eq_emod_of_nonneg (by omega)]) | (rw [Int.tmod_eq_emod_of_nonneg (by omega)]; omega))
        · intro a vs W hX hR he hf K hK
          rw [if_pos (wanted_none rfl)]
          have e136 : a.eval (.tmp 136) = .bool true := (he 14 136 (by kernel_rfl) rfl).trans (hR 14 (by kernel_rfl))
          have e145 : a.eval (.tmp 145) = .bool true := (he 23 145 (by kernel_rfl) rfl).trans (hR 23 (by kernel_rfl))
          refine wp_value (v := .bool true) ?_ (hK _ _ rfl (grown_refl W _))
          simp only [execOp, e136, e145]
          try go_simp
          try (first | rfl | omega | (simp only [IntKind.wrap_i64, IntKind.wrap_u8, IntKind.wrap_u64, IntKind.wrap_u16, IntKind.wrap_u32]; omega) | (rw [Int.tmod_eq_emod_of_nonneg (by omega)]) | (rw [Int.tmod_eq_emod_of_nonneg (by omega)]; omega))
        · intro a vs W hX hR he hf K hK
          rw [if_pos (wanted_none rfl)]
          have e146 : a.eval (.tmp 146) = .bool true := (he 24 146 (by kernel_rfl) rfl).trans (hR 24 (by kernel_rfl))
          refine wp_value (v := .bool true) ?_ (hK _ _ rfl (grown_refl W _))
          simp only [execOp, e146]
          try go_simp
          try (first | rfl | omega | (simp only [IntKind.wrap_i64, IntKind.wrap_u8, IntKind.wrap_u64, IntKind.wrap_u16, IntKind.wrap_u32]; omega) | (rw [Int.tmod_eq_emod_of_nonneg (by omega)]) | (rw [Int.tmod_eq_emod_of_nonneg (by omega)]; omega))
        · intro a vs W hX hR he hf K hK
          have e147 : a.eval (.tmp 147) = .bool true := (he 25 147 (by kernel_rfl) rfl).trans (hR 25 (by kernel_rfl))
          refine Eq.mpr (if_pos (by exact (wanted_some rfl rfl e147).trans rfl)) ?_
          have e19 : a.eval (.tmp 19) = .slice (some ⟨k4, 0, none⟩) n c4 := hf 19 (by kernel_rfl)
          refine wp_value (v := .slice (some ⟨k4, 0, none⟩) n c4) ?_ (hK _ _ rfl (grown_refl W _))
          simp only [execOp, e19]
          try go_simp
          try (first | rfl | omega | (simp only [IntKind.wrap_i64, IntKind.wrap_u8, IntKind.wrap_u64, IntKind.wrap_u16, IntKind.wrap_u32]; omega) | (rw [Int.tmod_eq_emod_of_nonneg (by omega)]) | (rw [Int.tmod_eq_emod_of_nonneg (by omega)]; omega))
        · intro a vs W hX hR he hf K hK
          have e147 : a.eval (.tmp 147) = .bool true := (he 25 147 (by kernel_rfl) rfl).trans (hR 25 (by kernel_rfl))
          refine Eq.mpr (if_pos (by exact (wanted_some rfl rfl e147).trans rfl)) ?_
          have e148 : a.eval (.tmp 148) = .slice (some ⟨k4, 0, none⟩) n c4 := (he 26 148 (by kernel_rfl) rfl).trans (hR 26 (by kernel_rfl))
          refine wp_value (v := .pointer (some ⟨k4, 0, none⟩)) ?_ (hK _ _ rfl (grown_refl W _))
          simp only [execOp, e148]
          try go_simp
          try (first | rfl | omega | (simp only [IntKind.wrap_i64, IntKind.wrap_u8, IntKind.wrap_u64, IntKind.wrap_u16, IntKind.wrap_u32]; omega) | (rw [Int.tmod_eq_emod_of_nonneg (by omega)]) | (rw [Int.tmod_eq_emod_of_nonneg (by omega)]; omega))
        · intro a vs W hX hR he hf K hK
          have e147 : a.eval (.tmp 147) = .bool true := (he 25 147 (by kernel_rfl) rfl).trans (hR 25 (by kernel_rfl))
          refine Eq.mpr (if_pos (by exact (wanted_some rfl rfl e147).trans rfl)) ?_
          have e149 : a.eval (.tmp 149) = .pointer (some ⟨k4, 0, none⟩) := (he 27 149 (by kernel_rfl) rfl).trans (hR 27 (by kernel_rfl))
          refine wp_value (v := .pointer (some ⟨k4, 0, none⟩)) ?_ (hK _ _ rfl (grown_refl W _))
          simp only [execOp, e149]
          try go_simp
          try (first | rfl | omega | (simp only [IntKind.wrap_i64, IntKind.wrap_u8, IntKind.wrap_u64, IntKind.wrap_u16, IntKind.wrap_u32]; omega) | (rw [Int.tmod_eq_emod_of_nonneg (by omega)]) | (rw [Int.tmod_eq_emod_of_nonneg (by omega)]; omega))
        · intro a vs W hX hR he hf K hK
          have e147 : a.eval (.tmp 147) = .bool true := (he 25 147 (by kernel_rfl) rfl).trans (hR 25 (by kernel_rfl))
          refine Eq.mpr (if_pos (by exact (wanted_some rfl rfl e147).trans rfl)) ?_
          have e150 : a.eval (.tmp 150) = .pointer (some ⟨k4, 0, none⟩) := (he 28 150 (by kernel_rfl) rfl).trans (hR 28 (by kernel_rfl))
          have hbW := bthen (below_drew _) (grow_below hX)
          have hq : W.cell? ⟨k4, 0, none⟩ = some (.int .i64 (x.label)) := row_at (HO4.out.row.below hbW) 0 rfl
          refine wp_value (v := _) ?_ (hK _ _ rfl (grown_refl W _))
          simp only [execOp, e150]
          go_simp
        · intro a vs W hX hR he hf K hK
          have e147 : a.eval (.tmp 147) = .bool true := (he 25 147 (by kernel_rfl) rfl).trans (hR 25 (by kernel_rfl))
          refine Eq.mpr (if_pos (by exact (wanted_some rfl rfl e147).trans rfl)) ?_
          have e0 : a.eval (.tmp 0) = .slice (some ⟨b, ob, none⟩) n c := hf 0 (by kernel_rfl)
          refine wp_value (v := .slice (some ⟨b, ob, none⟩) n c) ?_ (hK _ _ rfl (grown_refl W _))
          simp only [execOp, e0]
          try go_simp
          try (first | rfl | omega | (simp only [IntKind.wrap_i64, IntKind.wrap_u8, IntKind.wrap_u64, IntKind.wrap_u16, IntKind.wrap_u32]; omega) | (rw [Int.tmod_eq_emod_of_nonneg (by omega)]) | (rw [Int.tmod_eq_emod_of_nonneg (by omega)]; omega))
        · intro a vs W hX hR he hf K hK
          have e147 : a.eval (.tmp 147) = .bool true := (he 25 147 (by kernel_rfl) rfl).trans (hR 25 (by kernel_rfl))
          refine Eq.mpr (if_pos (by exact (wanted_some rfl rfl e147).trans rfl)) ?_
          have e152 : a.eval (.tmp 152) = .slice (some ⟨b, ob, none⟩) n c := (he 30 152 (by kernel_rfl) rfl).trans (hR 30 (by kernel_rfl))
          refine wp_value (v := .pointer (some ⟨b, ob, none⟩)) ?_ (hK _ _ rfl (grown_refl W _))
          simp only [execOp, e152]
          try go_simp
          try (first | rfl | omega | (simp only [IntKind.wrap_i64, IntKind.wrap_u8, IntKind.wrap_u64, IntKind.wrap_u16, IntKind.wrap_u32]; omega) | (rw [Int.tmod_eq_emod_of_nonneg (by omega)]) | (rw [Int.tmod_eq_emod_of_nonneg (by omega)]; omega))
        · intro a vs W hX hR he hf K hK
          have e147 : a.eval (.tmp 147) = .bool true := (he 25 147 (by kernel_rfl) rfl).trans (hR 25 (by kernel_rfl))
          refine Eq.mpr (if_pos (by exact (wanted_some rfl rfl e147).trans rfl)) ?_
          have e153 : a.eval (.tmp 153) = .pointer (some ⟨b, ob, none⟩) := (he 31 153 (by kernel_rfl) rfl).trans (hR 31 (by kernel_rfl))
          refine wp_value (v := .pointer (some ⟨b, ob, none⟩)) ?_ (hK _ _ rfl (grown_refl W _))
          simp only [execOp, e153]
          try go_simp
          try (first | rfl | omega | (simp only [IntKind.wrap_i64, IntKind.wrap_u8, IntKind.wrap_u64, IntKind.wrap_u16, IntKind.wrap_u32]; omega) | (rw [Int.tmod_eq_emod_of_nonneg (by omega)]) | (rw [Int.tmod_eq_emod_of_nonneg (by omega)]; omega))
        · intro a vs W hX hR he hf K hK
          have e147 : a.eval (.tmp 147) = .bool true := (he 25 147 (by kernel_rfl) rfl).trans (hR 25 (by kernel_rfl))
          refine Eq.mpr (if_pos (by exact (wanted_some rfl rfl e147).trans rfl)) ?_
          have e154 : a.eval (.tmp 154) = .pointer (some ⟨b, ob, none⟩) := (he 32 154 (by kernel_rfl) rfl).trans (hR 32 (by kernel_rfl))
          have hbW := bthen (below_drew _) (grow_below hX)
          have hq : W.cell? ⟨b, ob, none⟩ = some (.int .i64 (x.label)) := row_at (HR.out.below hbW) 0 rfl
          refine wp_value (v := _) ?_ (hK _ _ rfl (grown_refl W _))
          simp only [execOp, e154]
          go_simp
        · intro a vs W hX hR he hf K hK
          have e147 : a.eval (.tmp 147) = .bool true := (he 25 147 (by kernel_rfl) rfl).trans (hR 25 (by kernel_rfl))
          refine Eq.mpr (if_pos (by exact (wanted_some rfl rfl e147).trans rfl)) ?_
          have e151 : a.eval (.tmp 151) = .int .i64 (x.label) := (he 29 151 (by kernel_rfl) rfl).trans (hR 29 (by kernel_rfl))
          have e155 : a.eval (.tmp 155) = .int .i64 (x.label) := (he 33 155 (by kernel_rfl) rfl).trans (hR 33 (by kernel_rfl))
          refine wp_value (v := .bool true) ?_ (hK _ _ rfl (grown_refl W _))
          simp only [execOp, e151, e155]
          try go_simp
          try (first | rfl | omega | (simp only [IntKind.wrap_i64, IntKind.wrap_u8, IntKind.wrap_u64, IntKind.wrap_u16, IntKind.wrap_u32]; omega) | (rw [Int.tmod_eq_emod_of_nonneg (by omega)]) | (rw [Int.tmod_eq_emod_of_nonneg (by omega)]; omega))
        · intro a vs W hX hR he hf K hK
          rw [if_pos (wanted_none rfl)]
          have e147 : a.eval (.tmp 147) = .bool true := (he 25 147 (by kernel_rfl) rfl).trans (hR 25 (by kernel_rfl))
          have e156 : a.eval (.tmp 156) = .bool true := (he 34 156 (by kernel_rfl) rfl).trans (hR 34 (by kernel_rfl))
          refine wp_value (v := .bool true) ?_ (hK _ _ rfl (grown_refl W _))
          simp only [execOp, e147, e156]
          try go_simp
          try (first | rfl | omega | (simp only [IntKind.wrap_i64, IntKind.wrap_u8, IntKind.wrap_u64, IntKind.wrap_u16, IntKind.wrap_u32]; omega) | (rw [Int.tmod_eq_emod_of_nonneg (by omega)]) | (rw [Int.tmod_eq_emod_of_nonneg (by omega)]; omega))
        · intro a vs W hX hR he hf K hK
          rw [if_pos (wanted_none rfl)]
          have e157 : a.eval (.tmp 157) = .bool true := (he 35 157 (by kernel_rfl) rfl).trans (hR 35 (by kernel_rfl))
          refine wp_value (v := .bool true) ?_ (hK _ _ rfl (grown_refl W _))
          simp only [execOp, e157]
          try go_simp
          try (first | rfl | omega | (simp only [IntKind.wrap_i64, IntKind.wrap_u8, IntKind.wrap_u64, IntKind.wrap_u16, IntKind.wrap_u32]; omega) | (rw [Int.tmod_eq_emod_of_nonneg (by omega)]) | (rw [Int.tmod_eq_emod_of_nonneg (by omega)]; omega))
        · intro a vs W hX hR he hf K hK
          have e158 : a.eval (.tmp 158) = .bool true := (he 36 158 (by kernel_rfl) rfl).trans (hR 36 (by kernel_rfl))
          refine Eq.mpr (if_pos (by exact (wanted_some rfl rfl e158).trans rfl)) ?_
          have e19 : a.eval (.tmp 19) = .slice (some ⟨k4, 0, none⟩) n c4 := hf 19 (by kernel_rfl)
          refine wp_value (v := .slice (some ⟨k4, 0, none⟩) n c4) ?_ (hK _ _ rfl (grown_refl W _))
          simp only [execOp, e19]
          try go_simp
          try (first | rfl | omega | (simp only [IntKind.wrap_i64, IntKind.wrap_u8, IntKind.wrap_u64, IntKind.wrap_u16, IntKind.wrap_u32]; omega) | (rw [Int.tmod_eq_emod_of_nonneg (by omega)]) | (rw [Int.tmod_eq_emod_of_nonneg (by omega)]; omega))
        · intro a vs W hX hR he hf K hK
          have e158 : a.eval (.tmp 158) = .bool true := (he 36 158 (by kernel_rfl) rfl).trans (hR 36 (by kernel_rfl))
          refine Eq.mpr (if_pos (by exact (wanted_some rfl rfl e158).trans rfl)) ?_
          have e159 : a.eval (.tmp 159) = .slice (some ⟨k4, 0, none⟩) n c4 := (he 37 159 (by kernel_rfl) rfl).trans (hR 37 (by kernel_rfl))
          refine wp_value (v := .pointer (some ⟨k4, 0, none⟩)) ?_ (hK _ _ rfl (grown_refl W _))
          simp only [execOp, e159]
          try go_simp
          try (first | rfl | omega | (simp only [IntKind.wrap_i64, IntKind.wrap_u8, IntKind.wrap_u64, IntKind.wrap_u16, IntKind.wrap_u32]; omega) | (rw [Int.tmod_eq_emod_of_nonneg (by omega)]) | (rw [Int.tmod_eq_emod_of_nonneg (by omega)]; omega))
        · intro a vs W hX hR he hf K hK
          have e158 : a.eval (.tmp 158) = .bool true := (he 36 158 (by kernel_rfl) rfl).trans (hR 36 (by kernel_rfl))
          refine Eq.mpr (if_pos (by exact (wanted_some rfl rfl e158).trans rfl)) ?_
          have e160 : a.eval (.tmp 160) = .pointer (some ⟨k4, 0, none⟩) := (he 38 160 (by kernel_rfl) rfl).trans (hR 38 (by kernel_rfl))
          refine wp_value (v := .pointer (some ⟨k4, 3, none⟩)) ?_ (hK _ _ rfl (grown_refl W _))
          simp only [execOp, e160]
          try go_simp
          try (first | rfl | omega | (simp only [IntKind.wrap_i64, IntKind.wrap_u8, IntKind.wrap_u64, IntKind.wrap_u16, IntKind.wrap_u32]; omega) | (rw [Int.tmod_eq_emod_of_nonneg (by omega)]) | (rw [Int.tmod_eq_emod_of_nonneg (by omega)]; omega))
        · intro a vs W hX hR he hf K hK
          have e158 : a.eval (.tmp 158) = .bool true := (he 36 158 (by kernel_rfl) rfl).trans (hR 36 (by kernel_rfl))
          refine Eq.mpr (if_pos (by exact (wanted_some rfl rfl e158).trans rfl)) ?_
          have e161 : a.eval (.tmp 161) = .pointer (some ⟨k4, 3, none⟩) := (he 39 161 (by kernel_rfl) rfl).trans (hR 39 (by kernel_rfl))
          have hbW := bthen (below_drew _) (grow_below hX)
          have hq : W.cell? ⟨k4, 3, none⟩ = some (.int .u8 (x.ttl - 2)) := row_at (HO4.out.row.below hbW) 3 rfl
          refine wp_value (v := _) ?_ (hK _ _ rfl (grown_refl W _))
          simp only [execOp, e161]
          go_simp
        · intro a vs W hX hR he hf K hK
          have e158 : a.eval (.tmp 158) = .bool true := (he 36 158 (by kernel_rfl) rfl).trans (hR 36 (by kernel_rfl))
          refine Eq.mpr (if_pos (by exact (wanted_some rfl rfl e158).trans rfl)) ?_
          have e22 : a.eval (.tmp 22) = .int .u8 (x.ttl - 2) := hf 22 (by kernel_rfl)
          refine wp_value (v := .int .u8 (x.ttl - 2)) ?_ (hK _ _ rfl (grown_refl W _))
          simp only [execOp, e22]
          try go_simp
          try (first | rfl | omega | (simp only [IntKind.wrap_i64, IntKind.wrap_u8, IntKind.wrap_u64, IntKind.wrap_u16, IntKind.wrap_u32]; omega) | (rw [Int.tmod_eq_emod_of_nonneg (by omega)]) | (rw [Int.tmod_eq_emod_of_nonneg (by omega)]; omega))
        · intro a vs W hX hR he hf K hK
          have e158 : a.eval (.tmp 158) = .bool true := (he 36 158 (by kernel_rfl) rfl).trans (hR 36 (by kernel_rfl))
          refine Eq.mpr (if_pos (by exact (wanted_some rfl rfl e158).trans rfl)) ?_
          have e162 : a.eval (.tmp 162) = .int .u8 (x.ttl - 2) := (he 40 162 (by kernel_rfl) rfl).trans (hR 40 (by kernel_rfl))
          have e163 : a.eval (.tmp 163) = .int .u8 (x.ttl - 2) := (he 41 163 (by kernel_rfl) rfl).trans (hR 41 (by kernel_rfl))
          refine wp_value (v := .bool true) ?_ (hK _ _ rfl (grown_refl W _))
          simp only [execOp, e162, e163]
          try go_simp
          try (first | rfl | omega | (simp only [IntKind.wrap_i64, IntKind.wrap_u8, IntKind.wrap_u64, IntKind.wrap_u16, IntKind.wrap_u32]; omega) | (rw [Int.tmod_eq_emod_of_nonneg (by omega)]) | (rw [Int.tmod_eq_emod_of_nonneg (by omega)]; omega))
        · intro a vs W hX hR he hf K hK
          rw [if_pos (wanted_none rfl)]
          have e158 : a.eval (.tmp 158) = .bool true := (he 36 158 (by kernel_rfl) rfl).trans (hR 36 (by kernel_rfl))
          have e164 : a.eval (.tmp 164) = .bool true := (he 42 164 (by kernel_rfl) rfl).trans (hR 42 (by kernel_rfl))
          refine wp_value (v := .bool true) ?_ (hK _ _ rfl (grown_refl W _))
          simp only [execOp, e158, e164]
          try go_simp
          try (first | rfl | omega | (simp only [IntKind.wrap_i64, IntKind.wrap_u8, IntKind.wrap_u64, IntKind.wrap_u16, IntKind.wrap_u32]; omega) | (rw [Int.tmod_eq_emod_of_nonneg (by omega)]) | (rw [Int.tmod_eq_emod_of_nonneg (by omega)]; omega))
        · intro a vs W hX hR he hf K hK
          rw [if_pos (wanted_none rfl)]
          have e165 : a.eval (.tmp 165) = .bool true := (he 43 165 (by kernel_rfl) rfl).trans (hR 43 (by kernel_rfl))
          refine wp_value (v := .bool true) ?_ (hK _ _ rfl (grown_refl W _))
          simp only [execOp, e165]
          try go_simp
          try (first | rfl | omega | (simp only [IntKind.wrap_i64, IntKind.wrap_u8, IntKind.wrap_u64, IntKind.wrap_u16, IntKind.wrap_u32]; omega) | (rw [Int.tmod_eq_emod_of_nonneg (by omega)]) | (rw [Int.tmod_eq_emod_of_nonneg (by omega)]; omega))
        · intro a vs W hX hR he hf K hK
          have e166 : a.eval (.tmp 166) = .bool true := (he 44 166 (by kernel_rfl) rfl).trans (hR 44 (by kernel_rfl))
          refine Eq.mpr (if_pos (by exact (wanted_some rfl rfl e166).trans rfl)) ?_
          have e13 : a.eval (.tmp 13) = .slice (some ⟨k2, 0, none⟩) n c2 := hf 13 (by kernel_rfl)
          refine wp_value (v := .slice (some ⟨k2, 0, none⟩) n c2) ?_ (hK _ _ rfl (grown_refl W _))
          simp only [execOp, e13]
          try go_simp
          try (first | rfl | omega | (simp only [IntKind.wrap_i64, IntKind.wrap_u8, IntKind.wrap_u64, IntKind.wrap_u16, IntKind.wrap_u32]; omega) | (rw [Int.tmod_eq_emod_of_nonneg (by omega)]) | (rw [Int.tmod_eq_emod_of_nonneg (by omega)]; omega))
        · intro a vs W hX hR he hf K hK
          have e166 : a.eval (.tmp 166) = .bool true := (he 44 166 (by kernel_rfl) rfl).trans (hR 44 (by kernel_rfl))
          refine Eq.mpr (if_pos (by exact (wanted_some rfl rfl e166).trans rfl)) ?_
          have e167 : a.eval (.tmp 167) = .slice (some ⟨k2, 0, none⟩) n c2 := (he 45 167 (by kernel_rfl) rfl).trans (hR 45 (by kernel_rfl))
          have f167 := e167
          simp only [Act.eval, Array.getD_eq_getD_getElem?] at f167
          have hbW := bthen (below_drew _) (grow_below hX)
          have kk1 : (1 : Int) ≤ (n : Int) := by omega
          have kk2 : ¬ (c2 : Int) < (n : Int) := by omega
          refine wp_value (v := .slice (if c2 = 1 then some ⟨k2, 0, none⟩ else some ⟨k2, 0 + 1 * 4, none⟩) (n - 1) (c2 - 1)) ?_ (hK _ _ ⟨_, _, rfl, (HC2.out.below hbW).more hbW.size⟩ (grown_refl W _))
          simp only [execOp, e167]
          go_simp
        · intro a vs W hX hR he hf K hK
          have e166 : a.eval (.tmp 166) = .bool true := (he 44 166 (by kernel_rfl) rfl).trans (hR 44 (by kernel_rfl))
          refine Eq.mpr (if_pos (by exact (wanted_some rfl rfl e166).trans rfl)) ?_
          have e0 : a.eval (.tmp 0) = .slice (some ⟨b, ob, none⟩) n c := hf 0 (by kernel_rfl)
          refine wp_value (v := .slice (some ⟨b, ob, none⟩) n c) ?_ (hK _ _ rfl (grown_refl W _))
          simp only [execOp, e0]
          try go_simp
          try (first | rfl | omega | (simp only [IntKind.wrap_i64, IntKind.wrap_u8, IntKind.wrap_u64, IntKind.wrap_u16, IntKind.wrap_u32]; omega) | (rw [Int.tmod_eq_emod_of_nonneg (by omega)]) | (rw [Int.tmod_eq_emod_of_nonneg (by omega)]; omega))
        · intro a vs W hX hR he hf K hK
          have e166 : a.eval (.tmp 166) = .bool true := (he 44 166 (by kernel_rfl) rfl).trans (hR 44 (by kernel_rfl))
          refine Eq.mpr (if_pos (by exact (wanted_some rfl rfl e166).trans rfl)) ?_
          have e169 : a.eval (.tmp 169) = .slice (some ⟨b, ob, none⟩) n c := (he 47 169 (by kernel_rfl) rfl).trans (hR 47 (by kernel_rfl))
          have f169 := e169
          simp only [Act.eval, Array.getD_eq_getD_getElem?] at f169
          have hbW := bthen (below_drew _) (grow_below hX)
          have kk1 : (1 : Int) ≤ (n : Int) := by omega
          have kk2 : ¬ (c : Int) < (n : Int) := by omega
          refine wp_value (v := .slice (if c = 1 then some ⟨b, ob, none⟩ else some ⟨b, ob + 1 * 4, none⟩) (n - 1) (c - 1)) ?_ (hK _ _ ⟨_, _, rfl, (HC0.out.below hbW).more hbW.size⟩ (grown_refl W _))
          simp only [execOp, e169]
          go_simp
        · intro a vs W hX hR he hf K hK
          have e166 : a.eval (.tmp 166) = .bool true := (he 44 166 (by kernel_rfl) rfl).trans (hR 44 (by kernel_rfl))
          refine Eq.mpr (if_pos (by exact (wanted_some rfl rfl e166).trans rfl)) ?_
          have e168 := he 46 168 (by kernel_rfl) rfl
          have p168 := hR 46 (by kernel_rfl)
          change (fun v W => ∃ X d, v = .slice X (n - 1) d ∧ Row W W.heap.size 4 X (n - 1) (evs r)) (vs 46) W at p168
          have e170 := he 48 170 (by kernel_rfl) rfl
          have p170 := hR 48 (by kernel_rfl)
          change (fun v W => ∃ X d, v = .slice X (n - 1) d ∧ Row W W.heap.size 4 X (n - 1) (evs r)) (vs 48) W at p170
          obtain ⟨X1, z1, hv1, hr1⟩ := p168
          obtain ⟨X2, z2, hv2, hr2⟩ := p170
          rw [hv1] at e168
          rw [hv2] at e170
          refine wp_enter (f := 17) (args := #[.slice X1 (n - 1) z1, .slice X2 (n - 1) z2]) (by simp only [execOp, e168, e170]; go_simp; exact ⟨by simpa [Act.eval] using e168, by simpa [Act.eval] using e170⟩) ((same_same X1 X2 (n - 1) z1 z2 r W _ hr1 hr2 (by omega)).mono ?_)
          rintro q' w' ⟨rfl, hb⟩
          exact ⟨_, rfl, hK _ _ rfl (below_grow hb _)⟩
        · intro a vs W hX hR he hf K hK
          rw [if_pos (wanted_none rfl)]
          have e166 : a.eval (.tmp 166) = .bool true := (he 44 166 (by kernel_rfl) rfl).trans (hR 44 (by kernel_rfl))
          have e171 : a.eval (.tmp 171) = .bool true := (he 49 171 (by kernel_rfl) rfl).trans (hR 49 (by kernel_rfl))
          refine wp_value (v := .bool true) ?_ (hK _ _ rfl (grown_refl W _))
          simp only [execOp, e166, e171]
          try go_simp
          try (first | rfl | omega | (simp only [IntKind.wrap_i64, IntKind.wrap_u8, IntKind.wrap_u64, IntKind.wrap_u16, IntKind.wrap_u32]; omega) | (rw [Int.tmod_eq_emod_of_nonneg (by omega)]) | (rw [Int.tmod_eq_emod_of_nonneg (by omega)]; omega))
        · intro a vs W hX hR he hf K hK
          rw [if_pos (wanted_none rfl)]
          have e172 : a.eval (.tmp 172) = .bool true := (he 50 172 (by kernel_rfl) rfl).trans (hR 50 (by kernel_rfl))
          refine wp_value (v := .bool true) ?_ (hK _ _ rfl (grown_refl W _))
          simp only [execOp, e172]
          try go_simp
          try (first | rfl | omega | (simp only [IntKind.wrap_i64, IntKind.wrap_u8, IntKind.wrap_u64, IntKind.wrap_u16, IntKind.wrap_u32]; omega) | (rw [Int.tmod_eq_emod_of_nonneg (by omega)]) | (rw [Int.tmod_eq_emod_of_nonneg (by omega)]; omega))
        · intro a vs W hX hR he hf K hK
          have e173 : a.eval (.tmp 173) = .bool true := (he 51 173 (by kernel_rfl) rfl).trans (hR 51 (by kernel_rfl))
          refine Eq.mpr (if_pos (by exact (wanted_some rfl rfl e173).trans rfl)) ?_
          have e19 : a.eval (.tmp 19) = .slice (some ⟨k4, 0, none⟩) n c4 := hf 19 (by kernel_rfl)
          refine wp_value (v := .slice (some ⟨k4, 0, none⟩) n c4) ?_ (hK _ _ rfl (grown_refl W _))
          simp only [execOp, e19]
          try go_simp
          try (first | rfl | omega | (simp only [IntKind.wrap_i64, IntKind.wrap_u8, IntKind.wrap_u64, IntKind.wrap_u16, IntKind.wrap_u32]; omega) | (rw [Int.tmod_eq_emod_of_nonneg (by omega)]) | (rw [Int.tmod_eq_emod_of_nonneg (by omega)]; omega))
        · intro a vs W hX hR he hf K hK
          have e173 : a.eval (.tmp 173) = .bool true := (he 51 173 (by kernel_rfl) rfl).trans (hR 51 (by kernel_rfl))
          refine Eq.mpr (if_pos (by exact (wanted_some rfl rfl e173).trans rfl)) ?_
          have e174 : a.eval (.tmp 174) = .slice (some ⟨k4, 0, none⟩) n c4 := (he 52 174 (by kernel_rfl) rfl).trans (hR 52 (by kernel_rfl))
          have f174 := e174
          simp only [Act.eval, Array.getD_eq_getD_getElem?] at f174
          have hbW := bthen (below_drew _) (grow_below hX)
          have kk1 : (1 : Int) ≤ (n : Int) := by omega
          have kk2 : ¬ (c4 : Int) < (n : Int) := by omega
          refine wp_value (v := .slice (if c4 = 1 then some ⟨k4, 0, none⟩ else some ⟨k4, 0 + 1 * 4, none⟩) (n - 1) (c4 - 1)) ?_ (hK _ _ ⟨_, _, rfl, (HC4.out.below hbW).more hbW.size⟩ (grown_refl W _))
          simp only [execOp, e174]
          go_simp
        · intro a vs W hX hR he hf K hK
          have e173 : a.eval (.tmp 173) = .bool true := (he 51 173 (by kernel_rfl) rfl).trans (hR 51 (by kernel_rfl))
          refine Eq.mpr (if_pos (by exact (wanted_some rfl rfl e173).trans rfl)) ?_
          have e0 : a.eval (.tmp 0) = .slice (some ⟨b, ob, none⟩) n c := hf 0 (by kernel_rfl)
          refine wp_value (v := .slice (some ⟨b, ob, none⟩) n c) ?_ (hK _ _ rfl (grown_refl W _))
          simp only [execOp, e0]
          try go_simp
          try (first | rfl | omega | (simp only [IntKind.wrap_i64, IntKind.wrap_u8, IntKind.wrap_u64, IntKind.wrap_u16, IntKind.wrap_u32]; omega) | (rw [Int.tmod_eq_emod_of_nonneg (by omega)]) | (rw [Int.tmod_eq_emod_of_nonneg (by omega)]; omega))
        · intro a vs W hX hR he hf K hK
          have e173 : a.eval (.tmp 173) = .bool true := (he 51 173 (by kernel_rfl) rfl).trans (hR 51 (by kernel_rfl))
          refine Eq.mpr (if_pos (by exact (wanted_some rfl rfl e173).trans rfl)) ?_
          have e176 : a.eval (.tmp 176) = .slice (some ⟨b, ob, none⟩) n c := (he 54 176 (by kernel_rfl) rfl).trans (hR 54 (by kernel_rfl))
          have f176 := e176
          simp only [Act.eval, Array.getD_eq_getD_getElem?] at f176
          have hbW := bthen (below_drew _) (grow_below hX)
          have kk1 : (1 : Int) ≤ (n : Int) := by omega
          have kk2 : ¬ (c : Int) < (n : Int) := by omega
          refine wp_value (v := .slice (if c = 1 then some ⟨b, ob, none⟩ else some ⟨b, ob + 1 * 4, none⟩) (n - 1) (c - 1)) ?_ (hK _ _ ⟨_, _, rfl, (HC0.out.below hbW).more hbW.size⟩ (grown_refl W _))
          simp only [execOp, e176]
          go_simp
        · intro a vs W hX hR he hf K hK
          have e173 : a.eval (.tmp 173) = .bool true := (he 51 173 (by kernel_rfl) rfl).trans (hR 51 (by kernel_rfl))
          refine Eq.mpr (if_pos (by exact (wanted_some rfl rfl e173).trans rfl)) ?_
          have e175 := he 53 175 (by kernel_rfl) rfl
          have p175 := hR 53 (by kernel_rfl)
          change (fun v W => ∃ X d, v = .slice X (n - 1) d ∧ Row W W.heap.size 4 X (n - 1) (evs r)) (vs 53) W at p175
          have e177 := he 55 177 (by kernel_rfl) rfl
          have p177 := hR 55 (by kernel_rfl)
          change (fun v W => ∃ X d, v = .slice X (n - 1) d ∧ Row W W.heap.size 4 X (n - 1) (evs r)) (vs 55) W at p177
          obtain ⟨X1, z1, hv1, hr1⟩ := p175
          obtain ⟨X2, z2, hv2, hr2⟩ := p177
          rw [hv1] at e175
          rw [hv2] at e177
          refine wp_enter (f := 17) (args := #[.slice X1 (n - 1) z1, .slice X2 (n - 1) z2]) (by simp only [execOp, e175, e177]; go_simp; exact ⟨by simpa [Act.eval] using e175, by simpa [Act.eval] using e177⟩) ((same_same X1 X2 (n - 1) z1 z2 r W _ hr1 hr2 (by omega)).mono ?_)
          rintro q' w' ⟨rfl, hb⟩
          exact ⟨_, rfl, hK _ _ rfl (below_grow hb _)⟩
        · intro a vs W hX hR he hf K hK
          rw [if_pos (wanted_none rfl)]
          have e173 : a.eval (.tmp 173) = .bool true := (he 51 173 (by kernel_rfl) rfl).trans (hR 51 (by kernel_rfl))
          have e178 : a.eval (.tmp 178) = .bool true := (he 56 178 (by kernel_rfl) rfl).trans (hR 56 (by kernel_rfl))
          refine wp_value (v := .bool true) ?_ (hK _ _ rfl (grown_refl W _))
          simp only [execOp, e173, e178]
          try go_simp
          try (first | rfl | omega | (simp only [IntKind.wrap_i64, IntKind.wrap_u8, IntKind.wrap_u64, IntKind.wrap_u16, IntKind.wrap_u32]; omega) | (rw [Int.tmod_eq_emod_of_nonneg (by omega)]) | (rw [Int.tmod_eq_emod_of_nonneg (by omega)]; omega))
        · intro a vs W hX hR he hf K hK
          rw [if_pos (wanted_none rfl)]
          have e179 : a.eval (.tmp 179) = .bool true := (he 57 179 (by kernel_rfl) rfl).trans (hR 57 (by kernel_rfl))
          refine wp_value (v := .bool true) ?_ (hK _ _ rfl (grown_refl W _))
          simp only [execOp, e179]
          try go_simp
          try (first | rfl | omega | (simp only [IntKind.wrap_i64, IntKind.wrap_u8, IntKind.wrap_u64, IntKind.wrap_u16, IntKind.wrap_u32]; omega) | (rw [Int.tmod_eq_emod_of_nonneg (by omega)]) | (rw [Int.tmod_eq_emod_of_nonneg (by omega)]; omega))
        · intro vs w9 hX9 hR
          have q0 := hR 0 (by decide)
          have q1 := hR 1 (by decide)
          have q2 := hR 2 (by decide)
          have q3 := hR 3 (by decide)
          have q4 := hR 4 (by decide)
          have q5 := hR 5 (by decide)
          have q6 := hR 6 (by decide)
          have q7 := hR 7 (by decide)
          have q8 := hR 8 (by decide)
          have q9 := hR 9 (by decide)
          have q10 := hR 10 (by decide)
          have q11 := hR 11 (by decide)
          have q12 := hR 12 (by decide)
          have q13 := hR 13 (by decide)
          have q14 := hR 14 (by decide)
          have q15 := hR 15 (by decide)
          have q16 := hR 16 (by decide)
          have q17 := hR 17 (by decide)
          have q18 := hR 18 (by decide)
          have q19 := hR 19 (by decide)
          have q20 := hR 20 (by decide)
          have q21 := hR 21 (by decide)
          have q22 := hR 22 (by decide)
          have q23 := hR 23 (by decide)
          have q24 := hR 24 (by decide)
          have q25 := hR 25 (by decide)
          have q26 := hR 26 (by decide)
          have q27 := hR 27 (by decide)
          have q28 := hR 28 (by decide)
          have q29 := hR 29 (by decide)
          have q30 := hR 30 (by decide)
          have q31 := hR 31 (by decide)
          have q32 := hR 32 (by decide)
          have q33 := hR 33 (by decide)
          have q34 := hR 34 (by decide)
          have q35 := hR 35 (by decide)
          have q36 := hR 36 (by decide)
          have q37 := hR 37 (by decide)
          have q38 := hR 38 (by decide)
          have q39 := hR 39 (by decide)
          have q40 := hR 40 (by decide)
          have q41 := hR 41 (by decide)
          have q42 := hR 42 (by decide)
          have q43 := hR 43 (by decide)
          have q44 := hR 44 (by decide)
          have q45 := hR 45 (by decide)
          have q46 := hR 46 (by decide)
          have q47 := hR 47 (by decide)
          have q48 := hR 48 (by decide)
          have q49 := hR 49 (by decide)
          have q50 := hR 50 (by decide)
          have q51 := hR 51 (by decide)
          have q52 := hR 52 (by decide)
          have q53 := hR 53 (by decide)
          have q54 := hR 54 (by decide)
          have q55 := hR 55 (by decide)
          have q56 := hR 56 (by decide)
          have q57 := hR 57 (by decide)
          have q58 := hR 58 (by decide)
          change vs 0 = .slice (some ⟨k2, 0, none⟩) n c2 at q0
          change vs 1 = .pointer (some ⟨k2, 0, none⟩) at q1
          change vs 2 = .pointer (some ⟨k2, 0, none⟩) at q2
          change vs 3 = .int .i64 (vb + 16) at q3
          change vs 4 = .int .i64 (vb + 16) at q4
          change vs 5 = .bool true at q5
          change vs 6 = .bool true at q6
          change vs 7 = .slice (some ⟨k2, 0, none⟩) n c2 at q7
          change vs 8 = .pointer (some ⟨k2, 0, none⟩) at q8
          change vs 9 = .pointer (some ⟨k2, 3, none⟩) at q9
          change vs 10 = .int .u8 (x.ttl - 2) at q10
          change vs 11 = .int .u8 (x.ttl - 2) at q11
          change vs 12 = .bool true at q12
          change vs 13 = .bool true at q13
          change vs 14 = .bool true at q14
          change vs 15 = .slice (some ⟨k2, 0, none⟩) n c2 at q15
          change vs 16 = .pointer (some ⟨k2, 0, none⟩) at q16
          change vs 17 = .pointer (some ⟨k2, 1, none⟩) at q17
          change vs 18 = .int .u8 (x.cls) at q18
          change vs 19 = .slice (some ⟨b, ob, none⟩) n c at q19
          change vs 20 = .pointer (some ⟨b, ob, none⟩) at q20
          change vs 21 = .pointer (some ⟨b, ob + 1, none⟩) at q21
          change vs 22 = .int .u8 (x.cls) at q22
          change vs 23 = .bool true at q23
          change vs 24 = .bool true at q24
          change vs 25 = .bool true at q25
          change vs 26 = .slice (some ⟨k4, 0, none⟩) n c4 at q26
          change vs 27 = .pointer (some ⟨k4, 0, none⟩) at q27
          change vs 28 = .pointer (some ⟨k4, 0, none⟩) at q28
          change vs 29 = .int .i64 (x.label) at q29
          change vs 30 = .slice (some ⟨b, ob, none⟩) n c at q30
          change vs 31 = .pointer (some ⟨b, ob, none⟩) at q31
          change vs 32 = .pointer (some ⟨b, ob, none⟩) at q32
          change vs 33 = .int .i64 (x.label) at q33
          change vs 34 = .bool true at q34
          change vs 35 = .bool true at q35
          change vs 36 = .bool true at q36
          change vs 37 = .slice (some ⟨k4, 0, none⟩) n c4 at q37
          change vs 38 = .pointer (some ⟨k4, 0, none⟩) at q38
          change vs 39 = .pointer (some ⟨k4, 3, none⟩) at q39
          change vs 40 = .int .u8 (x.ttl - 2) at q40
          change vs 41 = .int .u8 (x.ttl - 2) at q41
          change vs 42 = .bool true at q42
          change vs 43 = .bool true at q43
          change vs 44 = .bool true at q44
          change vs 45 = .slice (some ⟨k2, 0, none⟩) n c2 at q45
          change (fun v W => ∃ X d, v = .slice X (n - 1) d ∧ Row W W.heap.size 4 X (n - 1) (evs r)) (vs 46) w9 at q46
          change vs 47 = .slice (some ⟨b, ob, none⟩) n c at q47
          change (fun v W => ∃ X d, v = .slice X (n - 1) d ∧ Row W W.heap.size 4 X (n - 1) (evs r)) (vs 48) w9 at q48
          change vs 49 = .bool true at q49
          change vs 50 = .bool true at q50
          change vs 51 = .bool true at q51
          change vs 52 = .slice (some ⟨k4, 0, none⟩) n c4 at q52
          change (fun v W => ∃ X d, v = .slice X (n - 1) d ∧ Row W W.heap.size 4 X (n - 1) (evs r)) (vs 53) w9 at q53
          change vs 54 = .slice (some ⟨b, ob, none⟩) n c at q54
          change (fun v W => ∃ X d, v = .slice X (n - 1) d ∧ Row W W.heap.size 4 X (n - 1) (evs r)) (vs 55) w9 at q55
          change vs 56 = .bool true at q56
          change vs 57 = .bool true at q57
          change vs 58 = .bool true at q58
          simp only [putAll, Act.put, List.setIfInBounds_toArray, List.set_cons_zero, List.set_cons_succ, q0, q1, q2, q3, q4, q5, q6, q7, q8, q9, q10, q11, q12, q13, q14, q15, q16, q17, q18, q19, q20, q21, q22, q23, q24, q25, q26, q27, q28, q29, q30, q31, q32, q33, q34, q35, q36, q37, q38, q39, q40, q41, q42, q43, q44, q45, q47, q49, q50, q51, q52, q54, q56, q57, q58]
          clear q0 q1 q2 q3 q4 q5 q6 q7 q8 q9 q10 q11 q12 q13 q14 q15 q16 q17 q18 q19 q20 q21 q22 q23 q24 q25 q26 q27 q28 q29 q30 q31 q32 q33 q34 q35 q36 q37 q38 q39 q40 q41 q42 q43 q44 q45 q47 q49 q50 q51 q52 q54 q56 q57 q58
          clear hR
          go_wp2_with fail
          go_ret
          exact ⟨rfl, bthen HW.out (bthen (below_drew _) (grow_below hX9))⟩
end Go.Proofs.Ytmpaockaeoknmaa

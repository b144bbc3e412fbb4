/- What rewrite.Do's closure push computes. No condition but sizes. -/
import Derived.Test.YtmpaockaeoknmaaRw4
namespace Go.Proofs.Ytmpaockaeoknmaa
open Go.RowKit
set_option linter.unusedVariables false
set_option maxRecDepth 20000
set_option linter.unusedSimpArgs false
def pushF (x : Ent) (t : Int) (rp : List Int) (l : List Ent) : List Ent := freshL x.cls t rp ++ (x :: l.drop 1)
/-- three rows of entries in a row -/
def TriR (m n c : Nat) (XA : Option Addr) (FL : List Ent) (x : Ent) (v : Value) (W : World) : Prop :=
  ∃ g A1 c1 A2 c2, v = .slice (some ⟨g, 0, none⟩) 3 3 ∧ Row W W.heap.size 1 (some ⟨g, 0, none⟩) 3 [.slice A1 m c1, .slice A2 1 c2, .slice XA n c] ∧ Row W W.heap.size 4 A1 m (evs FL) ∧ Row W W.heap.size 4 A2 1 (evs [x])
def OwnE (base k : Nat) (l : List Ent) (v : Value) (W : World) : Prop := ∃ A c, v = .slice A k c ∧ Own W base 46 4 A k c (evs l)
def RowE (k : Nat) (l : List Ent) (v : Value) (W : World) : Prop := ∃ A c, v = .slice A k c ∧ Row W W.heap.size 4 A k (evs l)
def TupE (base k : Nat) (l : List Ent) (F : Bool) (v : Value) (W : World) : Prop := ∃ A c, v = .tuple #[.slice A k c, .bool F] ∧ Own W base 46 4 A k c (evs l)
theorem mono_tri (m n c : Nat) (XA : Option Addr) (FL : List Ent) (x : Ent) : ∀ v A B, TriR m n c XA FL x v A → World.grownBy A B none → TriR m n c XA FL x v B := fun _ _ _ ⟨g, A1, c1, A2, c2, hv, h1, h2, h3⟩ hg => ⟨g, A1, c1, A2, c2, hv, (h1.below (grow_below hg)).more hg.size, (h2.below (grow_below hg)).more hg.size, (h3.below (grow_below hg)).more hg.size⟩
theorem mono_ownE (base k : Nat) (l : List Ent) : ∀ v A B, OwnE base k l v A → World.grownBy A B none → OwnE base k l v B := fun _ _ _ ⟨X, c, hv, h⟩ hg => ⟨X, c, hv, h.below (grow_below hg)⟩
theorem mono_rowE (k : Nat) (l : List Ent) : ∀ v A B, RowE k l v A → World.grownBy A B none → RowE k l v B := fun _ _ _ ⟨X, c, hv, h⟩ hg => ⟨X, c, hv, (h.below (grow_below hg)).more hg.size⟩
theorem mono_tupE (base k : Nat) (l : List Ent) (F : Bool) : ∀ v A B, TupE base k l F v A → World.grownBy A B none → TupE base k l F v B := fun _ _ _ ⟨X, c, hv, h⟩ hg => ⟨X, c, hv, h.below (grow_below hg)⟩

set_option maxHeartbeats 4000000 in
theorem push20_any (B : Option Addr) (m d : Nat) (rp : List Int) (g1 g2 g3 b o : Nat) (x : Ent) (t : Int) (n c : Nat) (l : List Ent) (w : World) (h1 : Blk w g1 46 x.cells) (h2 : Blk w g2 5 [.int .u8 t]) (h3 : Blk w g3 22 [.slice (some ⟨b, o, none⟩) n c])
    (hr : Row w w.heap.size 1 B m (nv .i64 rp)) (hm : m ≤ 1000000) (h : Row w w.heap.size 4 (some ⟨b, o, none⟩) n (evs l)) (hn1 : 1 ≤ n) (hc : n ≤ c) (hcm : c ≤ maxLen) (hn : n ≤ 1000000) (hcl : 0 ≤ x.cls ∧ x.cls ≤ 255) :
    Calls Try.prog 20 #[.slice B m d, .pointer (some ⟨g1, 0, none⟩), .pointer (some ⟨g2, 0, none⟩), .pointer (some ⟨g3, 0, none⟩)] w fun e w' => ∃ A' c', e = .returned (.tuple #[.slice A' (outE (pushF x t rp l)).1.length c', .int .i64 (outE (pushF x t rp l)).2]) ∧ Own w' w.heap.size 46 4 A' (outE (pushF x t rp l)).1.length c' (evs (outE (pushF x t rp l)).1) ∧ Below w.heap.size w w' := by
  have hlen := ent_len h
  have hrl : rp.length = m := by have := hr.1; rw [nv_length] at this; omega
  have hcut := h.cut (k := 1) (cap := c) (by omega) hc
  rw [addr_addR] at hcut
  have hev : (evs l).drop (1 * 4) = evs (l.drop 1) := by
    cases l with
    | nil => rfl
    | cons y r => rfl
  rw [hev] at hcut
  obtain ⟨XA, hXA⟩ : ∃ z, (if c = 1 then some ⟨b, o, none⟩ else some ⟨b, o + 1 * 4, none⟩ : Option Addr) = z := ⟨_, rfl⟩
  rw [hXA] at hcut
  have FR := fun W (hB : Below w.heap.size w W) => fresh_any B m d rp x.cls t (by omega) hcl.1 hcl.2 W ((hr.below hB).more hB.size)
  have hfl := freshL_length x.cls t rp
  obtain ⟨L, hL⟩ : ∃ L, pushF x t rp l = L := ⟨_, rfl⟩
  have hL2 : freshL x.cls t rp ++ (x :: l.drop 1) = L := hL
  obtain ⟨FL, hFL⟩ : ∃ z, freshL x.cls t rp = z := ⟨_, rfl⟩
  rw [hFL] at FR hL2 hfl
  have hll : L.length ≤ 1099511627776 := by rw [← hL2]; simp; omega
  obtain ⟨F, hF⟩ : ∃ F, decide (L.length ≤ 16) = F := ⟨_, rfl⟩
  have HFR := Lib.hid FR
  have HL := Lib.hid hL
  have HXA := Lib.hid hXA
  have HC := Lib.hid hcut
  have HF := Lib.hid hF
  have HLL := Lib.hid hll
  have HALL := Lib.hid (fun (A1 : Option Addr) (c1 : Nat) (A2 : Option Addr) (c2 : Nat) => show allE [⟨A1, m, c1, FL⟩, ⟨A2, 1, c2, [x]⟩, ⟨XA, n - 1, c - 1, l.drop 1⟩] = L by rw [← hL2]; simp [allE])
  have H1 := Lib.hid h1
  have H2 := Lib.hid h2
  have H3 := Lib.hid h3
  clear FR hL hL2 hXA hcut hF hll h1 h2 h3 hev h hr hfl hFL
  go_enter Try.func20, Try.ntmps20
  go_wp2_with fail
  refine wp_region_rel (fun A B => A.grownBy B none) (fun A => grown_refl A _) (fun A B C h k => grown_trans h k) (relAt (List.cons (fun v _ => v = .slice B m d) (List.cons (fun v _ => v = .pointer (some ⟨g1, 1, none⟩)) (List.cons (fun v _ => v = .int .u8 x.cls) (List.cons (fun v _ => v = .int .u8 t) (List.cons (OwnE w.heap.size m FL) (List.cons (fun v _ => v = .agg #[.int .i64 x.label, .int .u8 x.cls, .bool x.bot, .int .u8 x.ttl]) (List.cons (RowE 1 [x]) (List.cons (fun v _ => v = .slice (some ⟨b, o, none⟩) n c) (List.cons (fun v _ => v = .slice XA (n - 1) (c - 1)) (List.cons (TriR m (n - 1) (c - 1) XA FL x) (List.cons (TupE w.heap.size (fitE L).length (fitE L) F) (List.cons (TupE w.heap.size (fitE L).length (fitE L) F) (List.cons (OwnE w.heap.size (fitE L).length (fitE L)) (List.cons (fun v _ => v = .bool F) (List.cons (OwnE w.heap.size (fitE L).length (fitE L)) (List.cons (fun v _ => v = .bool F) ([])))))))))))))))))) (MonoL.at_ (.cons (mono_val _) (.cons (mono_val _) (.cons (mono_val _) (.cons (mono_val _) (.cons (mono_ownE _ _ _) (.cons (mono_val _) (.cons (mono_rowE _ _) (.cons (mono_val _) (.cons (mono_val _) (.cons (mono_tri _ _ _ _ _ _) (.cons (mono_tupE _ _ _ _) (.cons (mono_tupE _ _ _ _) (.cons (mono_ownE _ _ _) (.cons (mono_val _) (.cons (mono_ownE _ _ _) (.cons (mono_val _) .nil))))))))))))))))) (by kernel_rfl) (by kernel_rfl) ⟨?_, ?_, ?_, ?_, ?_, ?_, ?_, ?_, ?_, ?_, ?_, ?_, ?_, ?_, ?_, ?_, trivial⟩ ?_
  · intro a vs W hX hR he hf K hK
    rw [if_pos (wanted_none rfl)]
    have e0 : a.eval (.tmp 0) = .slice B m d := hf 0 (by kernel_rfl)
    refine wp_value (v := .slice B m d) ?_ (hK _ _ rfl (grown_refl W _))
    simp only [execOp, e0]
    try go_simp
    try (first | rfl | omega | (simp only [IntKind.wrap_i64, IntKind.wrap_u8, IntKind.wrap_u64, IntKind.wrap_u16, IntKind.wrap_u32]; omega) | (rw [Int.tmod_eq_emod_of_nonneg (by omega)]) | (rw [Int.tmod_eq_emod_of_nonneg (by omega)]; omega))
  · intro a vs W hX hR he hf K hK
    rw [if_pos (wanted_none rfl)]
    have e1 : a.eval (.tmp 1) = .pointer (some ⟨g1, 0, none⟩) := hf 1 (by kernel_rfl)
    refine wp_value (v := .pointer (some ⟨g1, 1, none⟩)) ?_ (hK _ _ rfl (grown_refl W _))
    simp only [execOp, e1]
    try go_simp
    try (first | rfl | omega | (simp only [IntKind.wrap_i64, IntKind.wrap_u8, IntKind.wrap_u64, IntKind.wrap_u16, IntKind.wrap_u32]; omega) | (rw [Int.tmod_eq_emod_of_nonneg (by omega)]) | (rw [Int.tmod_eq_emod_of_nonneg (by omega)]; omega))
  · intro a vs W hX hR he hf K hK
    rw [if_pos (wanted_none rfl)]
    have e11 : a.eval (.tmp 11) = .pointer (some ⟨g1, 1, none⟩) := (he 1 11 (by kernel_rfl) rfl).trans (hR 1 (by kernel_rfl))
    have hbW := bthen (below_drew _) (grow_below hX)
    have hc : W.cell? ⟨g1, 1, none⟩ = some (.int .u8 x.cls) := ((H1.out.on hbW).cell 1).trans (rfl : x.cells[1]? = some (.int .u8 x.cls))
    refine wp_value (v := _) ?_ (hK _ _ rfl (grown_refl W _))
    simp only [execOp, e11]
    try go_simp
  · intro a vs W hX hR he hf K hK
    rw [if_pos (wanted_none rfl)]
    have e2 : a.eval (.tmp 2) = .pointer (some ⟨g2, 0, none⟩) := hf 2 (by kernel_rfl)
    have hbW := bthen (below_drew _) (grow_below hX)
    have hc : W.cell? ⟨g2, 0, none⟩ = some (.int .u8 t) := ((H2.out.on hbW).cell 0).trans (rfl : [Value.int .u8 t][0]? = some (.int .u8 t))
    refine wp_value (v := _) ?_ (hK _ _ rfl (grown_refl W _))
    simp only [execOp, e2]
    try go_simp
  · intro a vs W hX hR he hf K hK
    rw [if_pos (wanted_none rfl)]
    have e10 : a.eval (.tmp 10) = .slice B m d := (he 0 10 (by kernel_rfl) rfl).trans (hR 0 (by kernel_rfl))
    have e12 : a.eval (.tmp 12) = .int .u8 x.cls := (he 2 12 (by kernel_rfl) rfl).trans (hR 2 (by kernel_rfl))
    have e13 : a.eval (.tmp 13) = .int .u8 t := (he 3 13 (by kernel_rfl) rfl).trans (hR 3 (by kernel_rfl))
    have hbW := bthen (below_drew _) (grow_below hX)
    refine wp_enter (f := 22) (args := #[.slice B m d, .int .u8 x.cls, .int .u8 t]) (by simp only [execOp, e10, e12, e13]; go_simp; exact ⟨by simpa [Act.eval] using e10, by simpa [Act.eval] using e12, by simpa [Act.eval] using e13⟩) ((HFR.out W hbW).mono ?_)
    rintro q w' ⟨A3, c3, rfl, hown, hb⟩
    exact ⟨_, rfl, hK _ _ ⟨A3, c3, rfl, hown.mono hbW.size⟩ (below_grow hb _)⟩
  · intro a vs W hX hR he hf K hK
    rw [if_pos (wanted_none rfl)]
    have e1 : a.eval (.tmp 1) = .pointer (some ⟨g1, 0, none⟩) := hf 1 (by kernel_rfl)
    have hbW := bthen (below_drew _) (grow_below hX)
    exact wp_value (exec_load 46 _ rfl g1 e1 46 x.cells _ (H1.out.on hbW) Try.underlying46 rfl (sizeEnt _)) (hK _ _ rfl (grown_refl W _))
  · intro a vs W hX hR he hf K hK
    rw [if_pos (wanted_none rfl)]
    have e15 : a.eval (.tmp 15) = .agg #[.int .i64 x.label, .int .u8 x.cls, .bool x.bot, .int .u8 x.ttl] := (he 5 15 (by kernel_rfl) rfl).trans (hR 5 (by kernel_rfl))
    have f15 := e15
    simp only [Act.eval, Array.getD_eq_getD_getElem?] at f15
    refine wp_value (v := .slice (some ⟨W.heap.size, 0, none⟩) 1 1) (w' := W.alloc (.cells #[.int .i64 x.label, .int .u8 x.cls, .bool x.bot, .int .u8 x.ttl] 46)) ?_ (hK _ _ ⟨_, _, rfl, by rw [World.size_alloc]; exact Row.new (n := 1) (sz := 4) W #[.int .i64 x.label, .int .u8 x.cls, .bool x.bot, .int .u8 x.ttl] rfl⟩ (World.grownBy_alloc _ _ _))
    simp only [execOp, f15]
    go_simp
  · intro a vs W hX hR he hf K hK
    rw [if_pos (wanted_none rfl)]
    have e3 : a.eval (.tmp 3) = .pointer (some ⟨g3, 0, none⟩) := hf 3 (by kernel_rfl)
    have hbW := bthen (below_drew _) (grow_below hX)
    have hc : W.cell? ⟨g3, 0, none⟩ = some (.slice (some ⟨b, o, none⟩) n c) := ((H3.out.on hbW).cell 0).trans (rfl : [Value.slice (some ⟨b, o, none⟩) n c][0]? = some (.slice (some ⟨b, o, none⟩) n c))
    refine wp_value (v := _) ?_ (hK _ _ rfl (grown_refl W _))
    simp only [execOp, e3]
    try go_simp
  · intro a vs W hX hR he hf K hK
    rw [if_pos (wanted_none rfl)]
    have e17 : a.eval (.tmp 17) = .slice (some ⟨b, o, none⟩) n c := (he 7 17 (by kernel_rfl) rfl).trans (hR 7 (by kernel_rfl))
    have f17 := e17
    simp only [Act.eval, Array.getD_eq_getD_getElem?] at f17
    have hn2i : (1 : Int) ≤ (n : Int) := by omega
    have hnci : ¬ (c : Int) < (n : Int) := by omega
    refine wp_value (v := _) ?_ (hK _ _ rfl (grown_refl W _))
    simp only [execOp, e17]
    go_simp
    first | done | (rw [show (if c = 1 then (some ⟨b, o, none⟩ : Option Addr) else some ⟨b, o + 4, none⟩) = XA from HXA.out])
  · intro a vs W hX hR he hf K hK
    rw [if_pos (wanted_none rfl)]
    have e14 := he 4 14 (by kernel_rfl) rfl
    have p14 := hR 4 (by kernel_rfl)
    change (OwnE w.heap.size m FL) (vs 4) W at p14
    have e16 := he 6 16 (by kernel_rfl) rfl
    have p16 := hR 6 (by kernel_rfl)
    change (RowE 1 [x]) (vs 6) W at p16
    have e18 : a.eval (.tmp 18) = .slice XA (n - 1) (c - 1) := (he 8 18 (by kernel_rfl) rfl).trans (hR 8 (by kernel_rfl))
    have f14 := e14
    simp only [Act.eval, Array.getD_eq_getD_getElem?] at f14
    have f16 := e16
    simp only [Act.eval, Array.getD_eq_getD_getElem?] at f16
    have f18 := e18
    simp only [Act.eval, Array.getD_eq_getD_getElem?] at f18
    obtain ⟨A1, c1, hv1, ho1⟩ := p14
    obtain ⟨A2, c2, hv2, ho2⟩ := p16
    rw [hv1] at e14 f14
    rw [hv2] at e16 f16
    have hle := alloc_belowR W (.cells #[.slice A1 m c1, .slice A2 1 c2, .slice XA (n - 1) (c - 1)] 22)
    refine wp_value (v := .slice (some ⟨W.heap.size, 0, none⟩) 3 3) (w' := W.alloc (.cells #[.slice A1 m c1, .slice A2 1 c2, .slice XA (n - 1) (c - 1)] 22)) ?_ (hK _ _ ⟨_, A1, c1, A2, c2, rfl, row_valsR W _ 3 _ rfl rfl, (ho1.row.below hle).more hle.size, (ho2.below hle).more hle.size⟩ (World.grownBy_alloc _ _ _))
    simp only [execOp, f14, f16, f18]
    go_simp
  · intro a vs W hX hR he hf K hK
    rw [if_pos (wanted_none rfl)]
    have e19 := he 9 19 (by kernel_rfl) rfl
    have p19 := hR 9 (by kernel_rfl)
    change (TriR m (n - 1) (c - 1) XA FL x) (vs 9) W at p19
    have hbW := bthen (below_drew _) (grow_below hX)
    obtain ⟨gq, A1, c1, A2, c2, hv, hq1, hq2, hq3⟩ := p19
    rw [hv] at e19
    refine wp_enter (f := 21) (args := #[.slice (some ⟨gq, 0, none⟩) 3 3]) (by simp only [execOp, e19]; go_simp; simpa [Act.eval] using e19) ((stack20_any (some ⟨gq, 0, none⟩) 3 3 [⟨A1, m, c1, FL⟩, ⟨A2, 1, c2, [x]⟩, ⟨XA, n - 1, c - 1, l.drop 1⟩] W hq1 (by
      intro z hz
      simp only [List.mem_cons, List.not_mem_nil, or_false] at hz
      rcases hz with rfl | rfl | rfl
      · exact hq2
      · exact hq3
      · exact (HC.out.below hbW).more hbW.size) (by omega) (by rw [HALL.out A1 c1 A2 c2]; exact HLL.out)).mono ?_)
    rintro q w' ⟨A3, c3, rfl, hown, hb⟩
    rw [HALL.out A1 c1 A2 c2] at hown ⊢
    exact ⟨_, rfl, hK _ _ ⟨A3, c3, by rw [HF.out], hown.mono hbW.size⟩ (below_grow hb _)⟩
  · intro a vs W hX hR he hf K hK
    rw [if_pos (wanted_none rfl)]
    have e20 := he 10 20 (by kernel_rfl) rfl
    have p20 := hR 10 (by kernel_rfl)
    change (TupE w.heap.size (fitE L).length (fitE L) F) (vs 10) W at p20
    refine wp_value (v := _) ?_ (hK _ _ p20 (grown_refl W _))
    simp only [execOp, e20]
    try go_simp
  · intro a vs W hX hR he hf K hK
    rw [if_pos (wanted_none rfl)]
    have e9 := he 11 9 (by kernel_rfl) rfl
    have p9 := hR 11 (by kernel_rfl)
    change (TupE w.heap.size (fitE L).length (fitE L) F) (vs 11) W at p9
    obtain ⟨A3, c3, hv, ho⟩ := p9
    rw [hv] at e9
    refine wp_value (v := .slice A3 (fitE L).length c3) ?_ (hK _ _ ⟨A3, c3, rfl, ho⟩ (grown_refl W _))
    simp only [execOp, e9]
    try go_simp
  · intro a vs W hX hR he hf K hK
    rw [if_pos (wanted_none rfl)]
    have e9 := he 11 9 (by kernel_rfl) rfl
    have p9 := hR 11 (by kernel_rfl)
    change (TupE w.heap.size (fitE L).length (fitE L) F) (vs 11) W at p9
    obtain ⟨A3, c3, hv, ho⟩ := p9
    rw [hv] at e9
    refine wp_value (v := .bool F) ?_ (hK _ _ rfl (grown_refl W _))
    simp only [execOp, e9]
    try go_simp
  · intro a vs W hX hR he hf K hK
    rw [if_pos (wanted_none rfl)]
    have e21 := he 12 21 (by kernel_rfl) rfl
    have p21 := hR 12 (by kernel_rfl)
    change (OwnE w.heap.size (fitE L).length (fitE L)) (vs 12) W at p21
    refine wp_value (v := _) ?_ (hK _ _ p21 (grown_refl W _))
    simp only [execOp, e21]
    try go_simp
  · intro a vs W hX hR he hf K hK
    rw [if_pos (wanted_none rfl)]
    have e22 : a.eval (.tmp 22) = .bool F := (he 13 22 (by kernel_rfl) rfl).trans (hR 13 (by kernel_rfl))
    refine wp_value (v := .bool F) ?_ (hK _ _ rfl (grown_refl W _))
    simp only [execOp, e22]
    try go_simp
    try (first | rfl | omega | (simp only [IntKind.wrap_i64, IntKind.wrap_u8, IntKind.wrap_u64, IntKind.wrap_u16, IntKind.wrap_u32]; omega) | (rw [Int.tmod_eq_emod_of_nonneg (by omega)]) | (rw [Int.tmod_eq_emod_of_nonneg (by omega)]; omega))
  · intro vs w2 hX2 hR
    have q0 := hR 0 (by decide)
    have q1 := hR 1 (by decide)
    have q2 := hR 2 (by decide)
    have q3 := hR 3 (by decide)
    have q4 := hR 4 (by decide)
    have q5 := hR 5 (by decide)
    have q6 := hR 6 (by decide)
    have q7 := hR 7 (by decide)
    have q8 := hR 8 (by decide)
    have q9 := hR 9 (by decide)
    have q10 := hR 10 (by decide)
    have q11 := hR 11 (by decide)
    have q12 := hR 12 (by decide)
    have q13 := hR 13 (by decide)
    have q14 := hR 14 (by decide)
    have q15 := hR 15 (by decide)
    change vs 0 = .slice B m d at q0
    change vs 1 = .pointer (some ⟨g1, 1, none⟩) at q1
    change vs 2 = .int .u8 x.cls at q2
    change vs 3 = .int .u8 t at q3
    change (OwnE w.heap.size m FL) (vs 4) w2 at q4
    change vs 5 = .agg #[.int .i64 x.label, .int .u8 x.cls, .bool x.bot, .int .u8 x.ttl] at q5
    change (RowE 1 [x]) (vs 6) w2 at q6
    change vs 7 = .slice (some ⟨b, o, none⟩) n c at q7
    change vs 8 = .slice XA (n - 1) (c - 1) at q8
    change (TriR m (n - 1) (c - 1) XA FL x) (vs 9) w2 at q9
    change (TupE w.heap.size (fitE L).length (fitE L) F) (vs 10) w2 at q10
    change (TupE w.heap.size (fitE L).length (fitE L) F) (vs 11) w2 at q11
    change (OwnE w.heap.size (fitE L).length (fitE L)) (vs 12) w2 at q12
    change vs 13 = .bool F at q13
    change (OwnE w.heap.size (fitE L).length (fitE L)) (vs 14) w2 at q14
    change vs 15 = .bool F at q15
    simp only [putAll, Act.put, List.setIfInBounds_toArray, List.set_cons_zero, List.set_cons_succ, q0, q1, q2, q3, q5, q7, q8, q13, q15]
    clear q0 q1 q2 q3 q5 q7 q8 q13 q15
    clear hR
    obtain ⟨A4, c4, hv4, ho4⟩ := q14
    rw [hv4]
    cases F
    · have HOE : Hid (outE L = ([], 51)) := Lib.hid (by unfold outE; rw [if_neg (of_decide_eq_false HF.out)])
      go_wp2_with fail
      go_ret2
      exact ⟨none, 0, by rw [HL.out, HOE.out]; rfl, by rw [HL.out, HOE.out]; exact Own.nil _ _ _ _ _, bthen (below_drew _) (grow_below hX2)⟩
    · have HOE : Hid (outE L = (L, 0)) := Lib.hid (by unfold outE; rw [if_pos (of_decide_eq_true HF.out)])
      have HFE : Hid (fitE L = L) := Lib.hid (by unfold fitE; rw [if_pos (of_decide_eq_true HF.out)])
      go_wp2_with fail
      go_ret2
      have ho5 := ho4
      rw [HFE.out] at ho5
      exact ⟨A4, c4, by rw [HL.out, HOE.out, HFE.out]; rfl, by rw [HL.out, HOE.out]; exact ho5, bthen (below_drew _) (grow_below hX2)⟩
end Go.Proofs.Ytmpaockaeoknmaa

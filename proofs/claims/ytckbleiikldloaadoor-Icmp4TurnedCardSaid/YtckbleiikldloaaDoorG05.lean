/- Texts of this claim put together, in build order: each one's own remark stands ahead of it. -/
import Derived.Test.YtckbleiikldloaaDoorG03
import Derived.Test.YtckbleiikldloaaDoorG02
import Derived.Test.YtckbleiikldloaaDoorG04
/- What the reference's Put and Stack of extensions (layer 22) compute. No condition but sizes. -/
namespace Go.Proofs.YtckbleiikldloaaDoor
open Go.RowKit
set_option linter.unusedVariables false
set_option maxRecDepth 20000
set_option linter.unusedSimpArgs false

structure Ob where
  cls : Int
  kind : Int
  body : List UInt8
def Ob.cells (x : Ob) : List Value := [.int .u8 x.cls, .int .u8 x.kind, str x.body]
structure Ob.fit (x : Ob) : Prop where
  cls : 0 ≤ x.cls ∧ x.cls ≤ 255
  kind : 0 ≤ x.kind ∧ x.kind ≤ 255
  body : x.body.length ≤ 1099511627776
def obs (l : List Ob) : List Value := l.flatMap Ob.cells
theorem obs_length (l : List Ob) : (obs l).length = l.length * 3 := by
  induction l with
  | nil => rfl
  | cons e l ih =>
    have h : obs (e :: l) = e.cells ++ obs l := rfl
    rw [h, List.length_append, ih, List.length_cons, Nat.succ_mul]
    simp [Ob.cells]
    omega
theorem obs_cell (l : List Ob) (i : Nat) (x : Ob) (h : l[i]? = some x) (j : Nat) (hj : j < 3) : (obs l)[i * 3 + j]? = x.cells[j]? := by
  induction l generalizing i with
  | nil => simp at h
  | cons y l ih =>
    have e : obs (y :: l) = y.cells ++ obs l := rfl
    have hl : y.cells.length = 3 := rfl
    rw [e]
    cases i with
    | zero =>
      simp at h
      subst h
      rw [List.getElem?_append_left (by omega)]
      congr 1
      omega
    | succ i =>
      simp at h
      rw [List.getElem?_append_right (by omega), ← ih i h]
      congr 1
      omega
theorem ob_row {w : World} {B n : Nat} {A : Option Addr} {l : List Ob} (h : Row w B 3 A n (obs l)) (i : Nat) (x : Ob) (hi : l[i]? = some x) :
    ∃ b o, A = some ⟨b, o, none⟩ ∧ b < B ∧ w.cell? ⟨b, o + i * 3, none⟩ = some (.int .u8 x.cls) ∧ w.cell? ⟨b, o + i * 3 + 1, none⟩ = some (.int .u8 x.kind) ∧ w.cell? ⟨b, o + i * 3 + 2, none⟩ = some (str x.body) := by
  have hl : l.length = n := by have := h.1; rw [obs_length] at this; omega
  have hn : 0 < n := by
    obtain ⟨hi', _⟩ := List.getElem?_eq_some_iff.1 hi
    omega
  obtain ⟨b, o, rfl, hb, hc⟩ := h.2 hn
  refine ⟨b, o, rfl, hb, ?_, ?_, ?_⟩
  · exact hc (i * 3) _ (obs_cell l i x hi 0 (by omega))
  · exact hc (i * 3 + 1) _ (obs_cell l i x hi 1 (by omega))
  · exact hc (i * 3 + 2) _ (obs_cell l i x hi 2 (by omega))
theorem ob_len {w : World} {B n : Nat} {A : Option Addr} {l : List Ob} (h : Row w B 3 A n (obs l)) : l.length = n := by
  have := h.1; rw [obs_length] at this; omega
theorem exec_add {P : Program} {w : World} {o : Oper} {a : Act} (T U : TypeId) (x y : Operand) (ho : o.op = .binOp .add T x y U) (hT : P.underlying T = some .string) (s t : List UInt8) (hx : a.eval x = str s) (hy : a.eval y = str t) (hl : s.length + t.length ≤ 9223372036854775807) :
    (execOp a.eval o).run P w = .ok (.value (str (s ++ t))) w := by
  unfold execOp
  simp only [ho, hx, hy]
  go_simp
  simp [ba_append]
  omega
/-- an object's bytes -/
def Ob.good (x : Ob) : Bool := decide (x.body.length ≤ 1000) && decide (x.body.length % 4 = 0)
def obB (x : Ob) : List UInt8 := toBe 2 (x.body.length + 4) ++ [ub x.cls, ub x.kind] ++ x.body
def obsB (l : List Ob) : List UInt8 := l.flatMap obB
theorem obB_length (x : Ob) : (obB x).length = x.body.length + 4 := by simp [obB, toBe_length]; omega
theorem obsB_snoc (l : List Ob) (k : Nat) (x : Ob) (h : l[k]? = some x) : obsB (l.take (k + 1)) = obsB (l.take k) ++ obB x := by
  rw [take_snoc l k x h]; simp [obsB]
theorem obsB_length (l : List Ob) (h : ∀ x ∈ l, x.good = true) : (obsB l).length ≤ 1004 * l.length := by
  induction l with
  | nil => simp [obsB]
  | cons x l ih =>
    have e : obsB (x :: l) = obB x ++ obsB l := rfl
    have hx := h x (by simp)
    simp only [Ob.good, Bool.and_eq_true, decide_eq_true_eq] at hx
    have := ih fun y hy => h y (by simp [hy])
    rw [e, List.length_append, obB_length, List.length_cons]
    omega
def hd22 (s : List UInt8) : List UInt8 := [32, 0] ++ toBe 2 (65535 - rawN ([32, 0, 0, 0] ++ s)) ++ s
def ext22 (l : List Ob) : List UInt8 × Int := if l.all Ob.good then (hd22 (obsB l), 0) else ([], 1)
def stack22 (l : List Ent) : List UInt8 × Int := if 16 < l.length then ([], 51) else if l.all Ent.good then (hd22 (obB ⟨1, 1, l.flatMap packL⟩), 0) else ([], 1)
theorem hd22_length (s : List UInt8) : (hd22 s).length = 4 + s.length := by simp [hd22, toBe_length]; omega

set_option maxHeartbeats 4000000 in
theorem rext_put (A : Option Addr) (n c : Nat) (l : List Ob) (w : World) (hr : Row w w.heap.size 3 A n (obs l)) (hf : ∀ x ∈ l, x.fit) (hn : n ≤ 1000000) :
    Calls Tryd.prog 48 #[.slice A n c] w fun e w' => e = .returned (.tuple #[str (ext22 l).1, .int .i64 (ext22 l).2]) ∧ Below w.heap.size w w' := by
  have hlen := ob_len hr
  have HR := Lib.hid hr
  have HF := Lib.hid hf
  clear hr hf
  go_enter Tryd.func48, Tryd.ntmps48
  go_wp2_with fail
  go_loopw [4, 5] (fun s i wr => ∃ k : Nat, k ≤ n ∧ i = .int .i64 k ∧ s = str (obsB (l.take k)) ∧ (∀ x ∈ l.take k, x.good = true) ∧ Below w.heap.size w wr) (fun _ i _ => n - (intOf i).toNat)
  case atStart => exact ⟨0, by omega, rfl, rfl, by simp, Below.refl _ _⟩
  case round =>
    obtain ⟨k, hk, rfl, rfl, hg, hB⟩ := hrel
    have HG := Lib.hid hg
    have HB := Lib.hid hB
    have hsl : (obsB (l.take k)).length ≤ 1004 * k := by have := obsB_length _ hg; rw [List.length_take] at this; omega
    by_cases hlt : k < n
    · obtain ⟨x, hx⟩ := get_ex l (k := k) (by omega)
      have hxf := HF.out x (List.mem_of_getElem? hx)
      have HXF := Lib.hid hxf
      obtain ⟨b, o, rfl, hb, q0, q1, q2⟩ := ob_row (HR.out.below hB) k x hx
      have HS := Lib.hid (obsB_snoc l k x hx)
      have HX := Lib.hid hx
      have HTK := Lib.hid (take_snoc l k x hx)
      obtain ⟨S, hS⟩ : ∃ S, obsB (l.take k) = S := ⟨_, rfl⟩
      rw [hS] at HS hsl ⊢
      have hb2 := hxf.body
      have hmod : ((x.body.length : Nat) : Int).tmod 4 = ((x.body.length % 4 : Nat) : Int) := by rw [Int.tmod_eq_emod_of_nonneg (by omega)]; omega
      clear hB hg hx hxf hS
      by_cases h1 : x.body.length ≤ 1000
      · have h1' : ¬ (1000 : Int) < (x.body.length : Int) := by omega
        by_cases h2 : x.body.length % 4 = 0
        · have h2' : ¬ (0 : Int) < ((x.body.length % 4 : Nat) : Int) := by omega
          go_wp2_with fail
          refine wp_region_rel (fun A B => A.grownBy B none) (fun A => grown_refl A _) (fun A B C h k => grown_trans h k) (relAt (List.cons (fun v _ => v = str S) (List.cons (fun v _ => v = .slice (some ⟨b, o, none⟩) n c) (List.cons (fun v _ => v = .int .i64 (k : Int)) (List.cons (fun v _ => v = .pointer (some ⟨b, o + k * 3, none⟩)) (List.cons (fun v _ => v = .pointer (some ⟨b, o + k * 3 + 2, none⟩)) (List.cons (fun v _ => v = str x.body) (List.cons (fun v _ => v = .int .i64 (x.body.length : Int)) (List.cons (fun v _ => v = .int .i64 ((x.body.length : Int) + 4)) (List.cons (fun v _ => v = .int .u64 ((x.body.length : Int) + 4)) (List.cons (fun v _ => v = str (toBe 2 (x.body.length + 4))) (List.cons (fun v _ => v = .slice (some ⟨b, o, none⟩) n c) (List.cons (fun v _ => v = .int .i64 (k : Int)) (List.cons (fun v _ => v = .pointer (some ⟨b, o + k * 3, none⟩)) (List.cons (fun v _ => v = .pointer (some ⟨b, o + k * 3, none⟩)) (List.cons (fun v _ => v = .int .u8 x.cls) (List.cons (fun v _ => v = .slice (some ⟨b, o, none⟩) n c) (List.cons (fun v _ => v = .int .i64 (k : Int)) (List.cons (fun v _ => v = .pointer (some ⟨b, o + k * 3, none⟩)) (List.cons (fun v _ => v = .pointer (some ⟨b, o + k * 3 + 1, none⟩)) (List.cons (fun v _ => v = .int .u8 x.kind) (List.cons (BsR [ub x.cls, ub x.kind]) (List.cons (fun v _ => v = str [ub x.cls, ub x.kind]) (List.cons (fun v _ => v = str (toBe 2 (x.body.length + 4) ++ [ub x.cls, ub x.kind])) (List.cons (fun v _ => v = .slice (some ⟨b, o, none⟩) n c) (List.cons (fun v _ => v = .int .i64 (k : Int)) (List.cons (fun v _ => v = .pointer (some ⟨b, o + k * 3, none⟩)) (List.cons (fun v _ => v = .pointer (some ⟨b, o + k * 3 + 2, none⟩)) (List.cons (fun v _ => v = str x.body) (List.cons (fun v _ => v = str (toBe 2 (x.body.length + 4) ++ [ub x.cls, ub x.kind] ++ x.body)) (List.cons (fun v _ => v = str (S ++ toBe 2 (x.body.length + 4) ++ [ub x.cls, ub x.kind] ++ x.body)) (List.cons (fun v _ => v = str (S ++ toBe 2 (x.body.length + 4) ++ [ub x.cls, ub x.kind] ++ x.body)) ([]))))))))))))))))))))))))))))))))) (MonoL.at_ (.cons (mono_val _) (.cons (mono_val _) (.cons (mono_val _) (.cons (mono_val _) (.cons (mono_val _) (.cons (mono_val _) (.cons (mono_val _) (.cons (mono_val _) (.cons (mono_val _) (.cons (mono_val _) (.cons (mono_val _) (.cons (mono_val _) (.cons (mono_val _) (.cons (mono_val _) (.cons (mono_val _) (.cons (mono_val _) (.cons (mono_val _) (.cons (mono_val _) (.cons (mono_val _) (.cons (mono_val _) (.cons (mono_bs _) (.cons (mono_val _) (.cons (mono_val _) (.cons (mono_val _) (.cons (mono_val _) (.cons (mono_val _) (.cons (mono_val _) (.cons (mono_val _) (.cons (mono_val _) (.cons (mono_val _) (.cons (mono_val _) .nil)))))))))))))))))))))))))))))))) (by kernel_rfl) (by kernel_rfl) ⟨?_, ?_, ?_, ?_, ?_, ?_, ?_, ?_, ?_, ?_, ?_, ?_, ?_, ?_, ?_, ?_, ?_, ?_, ?_, ?_, ?_, ?_, ?_, ?_, ?_, ?_, ?_, ?_, ?_, ?_, ?_, trivial⟩ ?_
          · intro a vs W hX hR he hf K hK
            rw [if_pos (wanted_none rfl)]
            have e4 : a.eval (.tmp 4) = str S := hf 4 (by kernel_rfl)
            refine wp_value (v := str S) ?_ (hK _ _ rfl (grown_refl W _))
            simp only [execOp, e4]
            try go_simp
            try (first | rfl | omega | (simp only [IntKind.wrap_i64, IntKind.wrap_u8, IntKind.wrap_u64, IntKind.wrap_u16, IntKind.wrap_u32]; omega) | (rw [Int.tmod_eq_emod_of_nonneg (by omega)]) | (rw [Int.tmod_eq_emod_of_nonneg (by omega)]; omega))
          · intro a vs W hX hR he hf K hK
            rw [if_pos (wanted_none rfl)]
            have e0 : a.eval (.tmp 0) = .slice (some ⟨b, o, none⟩) n c := hf 0 (by kernel_rfl)
            refine wp_value (v := .slice (some ⟨b, o, none⟩) n c) ?_ (hK _ _ rfl (grown_refl W _))
            simp only [execOp, e0]
            try go_simp
            try (first | rfl | omega | (simp only [IntKind.wrap_i64, IntKind.wrap_u8, IntKind.wrap_u64, IntKind.wrap_u16, IntKind.wrap_u32]; omega) | (rw [Int.tmod_eq_emod_of_nonneg (by omega)]) | (rw [Int.tmod_eq_emod_of_nonneg (by omega)]; omega))
          · intro a vs W hX hR he hf K hK
            rw [if_pos (wanted_none rfl)]
            have e5 : a.eval (.tmp 5) = .int .i64 (k : Int) := hf 5 (by kernel_rfl)
            refine wp_value (v := .int .i64 (k : Int)) ?_ (hK _ _ rfl (grown_refl W _))
            simp only [execOp, e5]
            try go_simp
            try (first | rfl | omega | (simp only [IntKind.wrap_i64, IntKind.wrap_u8, IntKind.wrap_u64, IntKind.wrap_u16, IntKind.wrap_u32]; omega) | (rw [Int.tmod_eq_emod_of_nonneg (by omega)]) | (rw [Int.tmod_eq_emod_of_nonneg (by omega)]; omega))
          · intro a vs W hX hR he hf K hK
            rw [if_pos (wanted_none rfl)]
            have e31 : a.eval (.tmp 31) = .slice (some ⟨b, o, none⟩) n c := (he 1 31 (by kernel_rfl) rfl).trans (hR 1 (by kernel_rfl))
            have e32 : a.eval (.tmp 32) = .int .i64 (k : Int) := (he 2 32 (by kernel_rfl) rfl).trans (hR 2 (by kernel_rfl))
            refine wp_value (v := .pointer (some ⟨b, o + k * 3, none⟩)) ?_ (hK _ _ rfl (grown_refl W _))
            simp only [execOp, e31, e32]
            try go_simp
            try (first | rfl | omega | (simp only [IntKind.wrap_i64, IntKind.wrap_u8, IntKind.wrap_u64, IntKind.wrap_u16, IntKind.wrap_u32]; omega) | (rw [Int.tmod_eq_emod_of_nonneg (by omega)]) | (rw [Int.tmod_eq_emod_of_nonneg (by omega)]; omega))
          · intro a vs W hX hR he hf K hK
            rw [if_pos (wanted_none rfl)]
            have e33 : a.eval (.tmp 33) = .pointer (some ⟨b, o + k * 3, none⟩) := (he 3 33 (by kernel_rfl) rfl).trans (hR 3 (by kernel_rfl))
            refine wp_value (v := .pointer (some ⟨b, o + k * 3 + 2, none⟩)) ?_ (hK _ _ rfl (grown_refl W _))
            simp only [execOp, e33]
            try go_simp
            try (first | rfl | omega | (simp only [IntKind.wrap_i64, IntKind.wrap_u8, IntKind.wrap_u64, IntKind.wrap_u16, IntKind.wrap_u32]; omega) | (rw [Int.tmod_eq_emod_of_nonneg (by omega)]) | (rw [Int.tmod_eq_emod_of_nonneg (by omega)]; omega))
          · intro a vs W hX hR he hf K hK
            rw [if_pos (wanted_none rfl)]
            have e34 : a.eval (.tmp 34) = .pointer (some ⟨b, o + k * 3 + 2, none⟩) := (he 4 34 (by kernel_rfl) rfl).trans (hR 4 (by kernel_rfl))
            have hbW := bthen (below_drew _) (grow_below hX)
            obtain ⟨b', o', hA, _, q0', q1', q2'⟩ := ob_row ((HR.out.below (bthen HB.out hbW))) k x HX.out
            obtain ⟨rfl, rfl⟩ : b' = b ∧ o' = o := by injection hA with hA; injection hA with h1 h2; exact ⟨h1.symm, h2.symm⟩
            refine wp_value (v := _) ?_ (hK _ _ rfl (grown_refl W _))
            simp only [execOp, e34]
            go_simp
          · intro a vs W hX hR he hf K hK
            rw [if_pos (wanted_none rfl)]
            have e35 : a.eval (.tmp 35) = str x.body := (he 5 35 (by kernel_rfl) rfl).trans (hR 5 (by kernel_rfl))
            have f35 := e35
            simp only [Act.eval, Array.getD_eq_getD_getElem?] at f35
            refine wp_value (v := .int .i64 (x.body.length : Int)) ?_ (hK _ _ rfl (grown_refl W _))
            simp only [execOp, e35]
            try go_simp
            try (first | rfl | omega | (simp only [IntKind.wrap_i64, IntKind.wrap_u8, IntKind.wrap_u64, IntKind.wrap_u16, IntKind.wrap_u32]; omega) | (rw [Int.tmod_eq_emod_of_nonneg (by omega)]) | (rw [Int.tmod_eq_emod_of_nonneg (by omega)]; omega))
          · intro a vs W hX hR he hf K hK
            rw [if_pos (wanted_none rfl)]
            have e36 : a.eval (.tmp 36) = .int .i64 (x.body.length : Int) := (he 6 36 (by kernel_rfl) rfl).trans (hR 6 (by kernel_rfl))
            refine wp_value (v := .int .i64 ((x.body.length : Int) + 4)) ?_ (hK _ _ rfl (grown_refl W _))
            simp only [execOp, e36]
            try go_simp
            try (first | rfl | omega | (simp only [IntKind.wrap_i64, IntKind.wrap_u8, IntKind.wrap_u64, IntKind.wrap_u16, IntKind.wrap_u32]; omega) | (rw [Int.tmod_eq_emod_of_nonneg (by omega)]) | (rw [Int.tmod_eq_emod_of_nonneg (by omega)]; omega))
          · intro a vs W hX hR he hf K hK
            rw [if_pos (wanted_none rfl)]
            have e37 : a.eval (.tmp 37) = .int .i64 ((x.body.length : Int) + 4) := (he 7 37 (by kernel_rfl) rfl).trans (hR 7 (by kernel_rfl))
            refine wp_value (v := .int .u64 ((x.body.length : Int) + 4)) ?_ (hK _ _ rfl (grown_refl W _))
            simp only [execOp, e37]
            try go_simp
            try (first | rfl | omega | (simp only [IntKind.wrap_i64, IntKind.wrap_u8, IntKind.wrap_u64, IntKind.wrap_u16, IntKind.wrap_u32]; omega) | (rw [Int.tmod_eq_emod_of_nonneg (by omega)]) | (rw [Int.tmod_eq_emod_of_nonneg (by omega)]; omega))
          · intro a vs W hX hR he hf K hK
            rw [if_pos (wanted_none rfl)]
            have e38 : a.eval (.tmp 38) = .int .u64 ((x.body.length : Int) + 4) := (he 8 38 (by kernel_rfl) rfl).trans (hR 8 (by kernel_rfl))
            refine wp_enter (f := 23) (args := #[.int .u64 ((x.body.length : Int) + 4), .int .i64 2]) (by simp only [execOp, e38]; go_simp; simpa [Act.eval] using e38) ((bytes_any ((x.body.length : Int) + 4) 2 W (by omega) (by omega) (by omega) (by omega)).mono ?_)
            rintro e w' ⟨rfl, hb⟩
            exact ⟨_, rfl, hK _ _ (by rw [show ((x.body.length : Int) + 4).toNat = x.body.length + 4 by omega]; rfl) (below_grow hb _)⟩
          · intro a vs W hX hR he hf K hK
            rw [if_pos (wanted_none rfl)]
            have e0 : a.eval (.tmp 0) = .slice (some ⟨b, o, none⟩) n c := hf 0 (by kernel_rfl)
            refine wp_value (v := .slice (some ⟨b, o, none⟩) n c) ?_ (hK _ _ rfl (grown_refl W _))
            simp only [execOp, e0]
            try go_simp
            try (first | rfl | omega | (simp only [IntKind.wrap_i64, IntKind.wrap_u8, IntKind.wrap_u64, IntKind.wrap_u16, IntKind.wrap_u32]; omega) | (rw [Int.tmod_eq_emod_of_nonneg (by omega)]) | (rw [Int.tmod_eq_emod_of_nonneg (by omega)]; omega))
          · intro a vs W hX hR he hf K hK
            rw [if_pos (wanted_none rfl)]
            have e5 : a.eval (.tmp 5) = .int .i64 (k : Int) := hf 5 (by kernel_rfl)
            refine wp_value (v := .int .i64 (k : Int)) ?_ (hK _ _ rfl (grown_refl W _))
            simp only [execOp, e5]
            try go_simp
            try (first | rfl | omega | (simp only [IntKind.wrap_i64, IntKind.wrap_u8, IntKind.wrap_u64, IntKind.wrap_u16, IntKind.wrap_u32]; omega) | (rw [Int.tmod_eq_emod_of_nonneg (by omega)]) | (rw [Int.tmod_eq_emod_of_nonneg (by omega)]; omega))
          · intro a vs W hX hR he hf K hK
            rw [if_pos (wanted_none rfl)]
            have e40 : a.eval (.tmp 40) = .slice (some ⟨b, o, none⟩) n c := (he 10 40 (by kernel_rfl) rfl).trans (hR 10 (by kernel_rfl))
            have e41 : a.eval (.tmp 41) = .int .i64 (k : Int) := (he 11 41 (by kernel_rfl) rfl).trans (hR 11 (by kernel_rfl))
            refine wp_value (v := .pointer (some ⟨b, o + k * 3, none⟩)) ?_ (hK _ _ rfl (grown_refl W _))
            simp only [execOp, e40, e41]
            try go_simp
            try (first | rfl | omega | (simp only [IntKind.wrap_i64, IntKind.wrap_u8, IntKind.wrap_u64, IntKind.wrap_u16, IntKind.wrap_u32]; omega) | (rw [Int.tmod_eq_emod_of_nonneg (by omega)]) | (rw [Int.tmod_eq_emod_of_nonneg (by omega)]; omega))
          · intro a vs W hX hR he hf K hK
            rw [if_pos (wanted_none rfl)]
            have e42 : a.eval (.tmp 42) = .pointer (some ⟨b, o + k * 3, none⟩) := (he 12 42 (by kernel_rfl) rfl).trans (hR 12 (by kernel_rfl))
            refine wp_value (v := .pointer (some ⟨b, o + k * 3, none⟩)) ?_ (hK _ _ rfl (grown_refl W _))
            simp only [execOp, e42]
            try go_simp
            try (first | rfl | omega | (simp only [IntKind.wrap_i64, IntKind.wrap_u8, IntKind.wrap_u64, IntKind.wrap_u16, IntKind.wrap_u32]; omega) | (rw [Int.tmod_eq_emod_of_nonneg (by omega)]) | (rw [Int.tmod_eq_emod_of_nonneg (by omega)]; omega))
          · intro a vs W hX hR he hf K hK
            rw [if_pos (wanted_none rfl)]
            have e43 : a.eval (.tmp 43) = .pointer (some ⟨b, o + k * 3, none⟩) := (he 13 43 (by kernel_rfl) rfl).trans (hR 13 (by kernel_rfl))
            have hbW := bthen (below_drew _) (grow_below hX)
            obtain ⟨b', o', hA, _, q0', q1', q2'⟩ := ob_row ((HR.out.below (bthen HB.out hbW))) k x HX.out
            obtain ⟨rfl, rfl⟩ : b' = b ∧ o' = o := by injection hA with hA; injection hA with h1 h2; exact ⟨h1.symm, h2.symm⟩
            refine wp_value (v := _) ?_ (hK _ _ rfl (grown_refl W _))
            simp only [execOp, e43]
            go_simp
          · intro a vs W hX hR he hf K hK
            rw [if_pos (wanted_none rfl)]
            have e0 : a.eval (.tmp 0) = .slice (some ⟨b, o, none⟩) n c := hf 0 (by kernel_rfl)
            refine wp_value (v := .slice (some ⟨b, o, none⟩) n c) ?_ (hK _ _ rfl (grown_refl W _))
            simp only [execOp, e0]
            try go_simp
            try (first | rfl | omega | (simp only [IntKind.wrap_i64, IntKind.wrap_u8, IntKind.wrap_u64, IntKind.wrap_u16, IntKind.wrap_u32]; omega) | (rw [Int.tmod_eq_emod_of_nonneg (by omega)]) | (rw [Int.tmod_eq_emod_of_nonneg (by omega)]; omega))
          · intro a vs W hX hR he hf K hK
            rw [if_pos (wanted_none rfl)]
            have e5 : a.eval (.tmp 5) = .int .i64 (k : Int) := hf 5 (by kernel_rfl)
            refine wp_value (v := .int .i64 (k : Int)) ?_ (hK _ _ rfl (grown_refl W _))
            simp only [execOp, e5]
            try go_simp
            try (first | rfl | omega | (simp only [IntKind.wrap_i64, IntKind.wrap_u8, IntKind.wrap_u64, IntKind.wrap_u16, IntKind.wrap_u32]; omega) | (rw [Int.tmod_eq_emod_of_nonneg (by omega)]) | (rw [Int.tmod_eq_emod_of_nonneg (by omega)]; omega))
          · intro a vs W hX hR he hf K hK
            rw [if_pos (wanted_none rfl)]
            have e45 : a.eval (.tmp 45) = .slice (some ⟨b, o, none⟩) n c := (he 15 45 (by kernel_rfl) rfl).trans (hR 15 (by kernel_rfl))
            have e46 : a.eval (.tmp 46) = .int .i64 (k : Int) := (he 16 46 (by kernel_rfl) rfl).trans (hR 16 (by kernel_rfl))
            refine wp_value (v := .pointer (some ⟨b, o + k * 3, none⟩)) ?_ (hK _ _ rfl (grown_refl W _))
            simp only [execOp, e45, e46]
            try go_simp
            try (first | rfl | omega | (simp only [IntKind.wrap_i64, IntKind.wrap_u8, IntKind.wrap_u64, IntKind.wrap_u16, IntKind.wrap_u32]; omega) | (rw [Int.tmod_eq_emod_of_nonneg (by omega)]) | (rw [Int.tmod_eq_emod_of_nonneg (by omega)]; omega))
          · intro a vs W hX hR he hf K hK
            rw [if_pos (wanted_none rfl)]
            have e47 : a.eval (.tmp 47) = .pointer (some ⟨b, o + k * 3, none⟩) := (he 17 47 (by kernel_rfl) rfl).trans (hR 17 (by kernel_rfl))
            refine wp_value (v := .pointer (some ⟨b, o + k * 3 + 1, none⟩)) ?_ (hK _ _ rfl (grown_refl W _))
            simp only [execOp, e47]
            try go_simp
            try (first | rfl | omega | (simp only [IntKind.wrap_i64, IntKind.wrap_u8, IntKind.wrap_u64, IntKind.wrap_u16, IntKind.wrap_u32]; omega) | (rw [Int.tmod_eq_emod_of_nonneg (by omega)]) | (rw [Int.tmod_eq_emod_of_nonneg (by omega)]; omega))
          · intro a vs W hX hR he hf K hK
            rw [if_pos (wanted_none rfl)]
            have e48 : a.eval (.tmp 48) = .pointer (some ⟨b, o + k * 3 + 1, none⟩) := (he 18 48 (by kernel_rfl) rfl).trans (hR 18 (by kernel_rfl))
            have hbW := bthen (below_drew _) (grow_below hX)
            obtain ⟨b', o', hA, _, q0', q1', q2'⟩ := ob_row ((HR.out.below (bthen HB.out hbW))) k x HX.out
            obtain ⟨rfl, rfl⟩ : b' = b ∧ o' = o := by injection hA with hA; injection hA with h1 h2; exact ⟨h1.symm, h2.symm⟩
            refine wp_value (v := _) ?_ (hK _ _ rfl (grown_refl W _))
            simp only [execOp, e48]
            go_simp
          · intro a vs W hX hR he hf K hK
            rw [if_pos (wanted_none rfl)]
            have e44 : a.eval (.tmp 44) = .int .u8 x.cls := (he 14 44 (by kernel_rfl) rfl).trans (hR 14 (by kernel_rfl))
            have e49 : a.eval (.tmp 49) = .int .u8 x.kind := (he 19 49 (by kernel_rfl) rfl).trans (hR 19 (by kernel_rfl))
            have f44 := e44
            simp only [Act.eval, Array.getD_eq_getD_getElem?] at f44
            have f49 := e49
            simp only [Act.eval, Array.getD_eq_getD_getElem?] at f49
            refine wp_value (v := .slice (some ⟨W.heap.size, 0, none⟩) 2 2) (w' := W.alloc (.cells #[.int .u8 x.cls, .int .u8 x.kind] 5)) ?_ (hK _ _ ⟨_, _, _, rfl, ⟨row_litN W _ [ub x.cls, ub x.kind] 2 _ (by simp [bv, ub_nat _ HXF.out.cls.1 HXF.out.cls.2, ub_nat _ HXF.out.kind.1 HXF.out.kind.2]) rfl rfl, Nat.le_refl _, by simp [maxLen]⟩⟩ (World.grownBy_alloc _ _ _))
            simp only [execOp, f44, f49]
            go_simp
          · intro a vs W hX hR he hf K hK
            rw [if_pos (wanted_none rfl)]
            have e50 := he 20 50 (by kernel_rfl) rfl
            have p50 := hR 20 (by kernel_rfl)
            change (BsR [ub x.cls, ub x.kind]) (vs 20) W at p50
            obtain ⟨A', n', c', hv, ho⟩ := p50
            rw [hv] at e50
            exact wp_value (exec_str 22 9 5 _ rfl Tryd.underlying22 Tryd.underlying5 Tryd.underlying9 A' n' c' _ e50 ho) (hK _ _ rfl (grown_refl W _))
          · intro a vs W hX hR he hf K hK
            rw [if_pos (wanted_none rfl)]
            have e39 : a.eval (.tmp 39) = str (toBe 2 (x.body.length + 4)) := (he 9 39 (by kernel_rfl) rfl).trans (hR 9 (by kernel_rfl))
            have e51 : a.eval (.tmp 51) = str [ub x.cls, ub x.kind] := (he 21 51 (by kernel_rfl) rfl).trans (hR 21 (by kernel_rfl))
            refine wp_value (v := _) ?_ (hK _ _ rfl (grown_refl W _))
            simp only [execOp, e39, e51]
            go_simp
            simp [ba_append]
            try (simp [toBe_length] <;> omega)
          · intro a vs W hX hR he hf K hK
            rw [if_pos (wanted_none rfl)]
            have e0 : a.eval (.tmp 0) = .slice (some ⟨b, o, none⟩) n c := hf 0 (by kernel_rfl)
            refine wp_value (v := .slice (some ⟨b, o, none⟩) n c) ?_ (hK _ _ rfl (grown_refl W _))
            simp only [execOp, e0]
            try go_simp
            try (first | rfl | omega | (simp only [IntKind.wrap_i64, IntKind.wrap_u8, IntKind.wrap_u64, IntKind.wrap_u16, IntKind.wrap_u32]; omega) | (rw [Int.tmod_eq_emod_of_nonneg (by omega)]) | (rw [Int.tmod_eq_emod_of_nonneg (by omega)]; omega))
          · intro a vs W hX hR he hf K hK
            rw [if_pos (wanted_none rfl)]
            have e5 : a.eval (.tmp 5) = .int .i64 (k : Int) := hf 5 (by kernel_rfl)
            refine wp_value (v := .int .i64 (k : Int)) ?_ (hK _ _ rfl (grown_refl W _))
            simp only [execOp, e5]
            try go_simp
            try (first | rfl | omega | (simp only [IntKind.wrap_i64, IntKind.wrap_u8, IntKind.wrap_u64, IntKind.wrap_u16, IntKind.wrap_u32]; omega) | (rw [Int.tmod_eq_emod_of_nonneg (by omega)]) | (rw [Int.tmod_eq_emod_of_nonneg (by omega)]; omega))
          · intro a vs W hX hR he hf K hK
            rw [if_pos (wanted_none rfl)]
            have e53 : a.eval (.tmp 53) = .slice (some ⟨b, o, none⟩) n c := (he 23 53 (by kernel_rfl) rfl).trans (hR 23 (by kernel_rfl))
            have e54 : a.eval (.tmp 54) = .int .i64 (k : Int) := (he 24 54 (by kernel_rfl) rfl).trans (hR 24 (by kernel_rfl))
            refine wp_value (v := .pointer (some ⟨b, o + k * 3, none⟩)) ?_ (hK _ _ rfl (grown_refl W _))
            simp only [execOp, e53, e54]
            try go_simp
            try (first | rfl | omega | (simp only [IntKind.wrap_i64, IntKind.wrap_u8, IntKind.wrap_u64, IntKind.wrap_u16, IntKind.wrap_u32]; omega) | (rw [Int.tmod_eq_emod_of_nonneg (by omega)]) | (rw [Int.tmod_eq_emod_of_nonneg (by omega)]; omega))
          · intro a vs W hX hR he hf K hK
            rw [if_pos (wanted_none rfl)]
            have e55 : a.eval (.tmp 55) = .pointer (some ⟨b, o + k * 3, none⟩) := (he 25 55 (by kernel_rfl) rfl).trans (hR 25 (by kernel_rfl))
            refine wp_value (v := .pointer (some ⟨b, o + k * 3 + 2, none⟩)) ?_ (hK _ _ rfl (grown_refl W _))
            simp only [execOp, e55]
            try go_simp
            try (first | rfl | omega | (simp only [IntKind.wrap_i64, IntKind.wrap_u8, IntKind.wrap_u64, IntKind.wrap_u16, IntKind.wrap_u32]; omega) | (rw [Int.tmod_eq_emod_of_nonneg (by omega)]) | (rw [Int.tmod_eq_emod_of_nonneg (by omega)]; omega))
          · intro a vs W hX hR he hf K hK
            rw [if_pos (wanted_none rfl)]
            have e56 : a.eval (.tmp 56) = .pointer (some ⟨b, o + k * 3 + 2, none⟩) := (he 26 56 (by kernel_rfl) rfl).trans (hR 26 (by kernel_rfl))
            have hbW := bthen (below_drew _) (grow_below hX)
            obtain ⟨b', o', hA, _, q0', q1', q2'⟩ := ob_row ((HR.out.below (bthen HB.out hbW))) k x HX.out
            obtain ⟨rfl, rfl⟩ : b' = b ∧ o' = o := by injection hA with hA; injection hA with h1 h2; exact ⟨h1.symm, h2.symm⟩
            refine wp_value (v := _) ?_ (hK _ _ rfl (grown_refl W _))
            simp only [execOp, e56]
            go_simp
          · intro a vs W hX hR he hf K hK
            rw [if_pos (wanted_none rfl)]
            have e52 : a.eval (.tmp 52) = str (toBe 2 (x.body.length + 4) ++ [ub x.cls, ub x.kind]) := (he 22 52 (by kernel_rfl) rfl).trans (hR 22 (by kernel_rfl))
            have e57 : a.eval (.tmp 57) = str x.body := (he 27 57 (by kernel_rfl) rfl).trans (hR 27 (by kernel_rfl))
            refine wp_value (v := _) ?_ (hK _ _ rfl (grown_refl W _))
            simp only [execOp, e52, e57]
            go_simp
            simp [ba_append]
            try (simp [toBe_length] <;> omega)
          · intro a vs W hX hR he hf K hK
            rw [if_pos (wanted_none rfl)]
            have e30 : a.eval (.tmp 30) = str S := (he 0 30 (by kernel_rfl) rfl).trans (hR 0 (by kernel_rfl))
            have e58 : a.eval (.tmp 58) = str (toBe 2 (x.body.length + 4) ++ [ub x.cls, ub x.kind] ++ x.body) := (he 28 58 (by kernel_rfl) rfl).trans (hR 28 (by kernel_rfl))
            refine wp_value (v := _) ?_ (hK _ _ rfl (grown_refl W _))
            simp only [execOp, e30, e58]
            go_simp
            simp [ba_append]
            try (simp [toBe_length] <;> omega)
          · intro a vs W hX hR he hf K hK
            rw [if_pos (wanted_none rfl)]
            have e59 : a.eval (.tmp 59) = str (S ++ toBe 2 (x.body.length + 4) ++ [ub x.cls, ub x.kind] ++ x.body) := (he 29 59 (by kernel_rfl) rfl).trans (hR 29 (by kernel_rfl))
            refine wp_value (v := str (S ++ toBe 2 (x.body.length + 4) ++ [ub x.cls, ub x.kind] ++ x.body)) ?_ (hK _ _ rfl (grown_refl W _))
            simp only [execOp, e59]
            try go_simp
            try (first | rfl | omega | (simp only [IntKind.wrap_i64, IntKind.wrap_u8, IntKind.wrap_u64, IntKind.wrap_u16, IntKind.wrap_u32]; omega) | (rw [Int.tmod_eq_emod_of_nonneg (by omega)]) | (rw [Int.tmod_eq_emod_of_nonneg (by omega)]; omega))
          · intro vs w2 hX2 hR
            have q0 := hR 0 (by decide)
            have q1 := hR 1 (by decide)
            have q2 := hR 2 (by decide)
            have q3 := hR 3 (by decide)
            have q4 := hR 4 (by decide)
            have q5 := hR 5 (by decide)
            have q6 := hR 6 (by decide)
            have q7 := hR 7 (by decide)
            have q8 := hR 8 (by decide)
            have q9 := hR 9 (by decide)
            have q10 := hR 10 (by decide)
            have q11 := hR 11 (by decide)
            have q12 := hR 12 (by decide)
            have q13 := hR 13 (by decide)
            have q14 := hR 14 (by decide)
            have q15 := hR 15 (by decide)
            have q16 := hR 16 (by decide)
            have q17 := hR 17 (by decide)
            have q18 := hR 18 (by decide)
            have q19 := hR 19 (by decide)
            have q20 := hR 20 (by decide)
            have q21 := hR 21 (by decide)
            have q22 := hR 22 (by decide)
            have q23 := hR 23 (by decide)
            have q24 := hR 24 (by decide)
            have q25 := hR 25 (by decide)
            have q26 := hR 26 (by decide)
            have q27 := hR 27 (by decide)
            have q28 := hR 28 (by decide)
            have q29 := hR 29 (by decide)
            have q30 := hR 30 (by decide)
            change vs 0 = str S at q0
            change vs 1 = .slice (some ⟨b, o, none⟩) n c at q1
            change vs 2 = .int .i64 (k : Int) at q2
            change vs 3 = .pointer (some ⟨b, o + k * 3, none⟩) at q3
            change vs 4 = .pointer (some ⟨b, o + k * 3 + 2, none⟩) at q4
            change vs 5 = str x.body at q5
            change vs 6 = .int .i64 (x.body.length : Int) at q6
            change vs 7 = .int .i64 ((x.body.length : Int) + 4) at q7
            change vs 8 = .int .u64 ((x.body.length : Int) + 4) at q8
            change vs 9 = str (toBe 2 (x.body.length + 4)) at q9
            change vs 10 = .slice (some ⟨b, o, none⟩) n c at q10
            change vs 11 = .int .i64 (k : Int) at q11
            change vs 12 = .pointer (some ⟨b, o + k * 3, none⟩) at q12
            change vs 13 = .pointer (some ⟨b, o + k * 3, none⟩) at q13
            change vs 14 = .int .u8 x.cls at q14
            change vs 15 = .slice (some ⟨b, o, none⟩) n c at q15
            change vs 16 = .int .i64 (k : Int) at q16
            change vs 17 = .pointer (some ⟨b, o + k * 3, none⟩) at q17
            change vs 18 = .pointer (some ⟨b, o + k * 3 + 1, none⟩) at q18
            change vs 19 = .int .u8 x.kind at q19
            change (BsR [ub x.cls, ub x.kind]) (vs 20) w2 at q20
            change vs 21 = str [ub x.cls, ub x.kind] at q21
            change vs 22 = str (toBe 2 (x.body.length + 4) ++ [ub x.cls, ub x.kind]) at q22
            change vs 23 = .slice (some ⟨b, o, none⟩) n c at q23
            change vs 24 = .int .i64 (k : Int) at q24
            change vs 25 = .pointer (some ⟨b, o + k * 3, none⟩) at q25
            change vs 26 = .pointer (some ⟨b, o + k * 3 + 2, none⟩) at q26
            change vs 27 = str x.body at q27
            change vs 28 = str (toBe 2 (x.body.length + 4) ++ [ub x.cls, ub x.kind] ++ x.body) at q28
            change vs 29 = str (S ++ toBe 2 (x.body.length + 4) ++ [ub x.cls, ub x.kind] ++ x.body) at q29
            change vs 30 = str (S ++ toBe 2 (x.body.length + 4) ++ [ub x.cls, ub x.kind] ++ x.body) at q30
            simp only [putAll, Act.put, List.setIfInBounds_toArray, List.set_cons_zero, List.set_cons_succ, q0, q1, q2, q3, q4, q5, q6, q7, q8, q9, q10, q11, q12, q13, q14, q15, q16, q17, q18, q19, q21, q22, q23, q24, q25, q26, q27, q28, q29, q30]
            clear q0 q1 q2 q3 q4 q5 q6 q7 q8 q9 q10 q11 q12 q13 q14 q15 q16 q17 q18 q19 q21 q22 q23 q24 q25 q26 q27 q28 q29 q30
            clear hR
            go_wp2_with fail
            go_roundw
            case rel =>
              refine ⟨k + 1, by omega, by simp, by rw [HS.out]; simp [obB], ?_, bthen HB.out (bthen (below_drew _) (grow_below hX2))⟩
              intro y hy
              rw [HTK.out] at hy
              rcases List.mem_append.1 hy with h | h
              · exact HG.out y h
              · simp only [List.mem_singleton] at h
                subst h
                simp [Ob.good, h1, h2]
            case measure => simp [intOf]; omega
        · have h2' : (0 : Int) < ((x.body.length % 4 : Nat) : Int) := by omega
          go_wp2_with fail
          go_ret2
          have hno : (ext22 l) = ([], 1) := by
            unfold ext22
            rw [if_neg]
            intro hall
            have := List.all_eq_true.1 hall x (List.mem_of_getElem? HX.out)
            simp [Ob.good, h2] at this
          rw [hno]
          exact ⟨rfl, HB.out⟩
      · have h1' : (1000 : Int) < (x.body.length : Int) := by omega
        go_wp2_with fail
        go_ret2
        have hno : (ext22 l) = ([], 1) := by
          unfold ext22
          rw [if_neg]
          intro hall
          have := List.all_eq_true.1 hall x (List.mem_of_getElem? HX.out)
          simp [Ob.good, h1] at this
        rw [hno]
        exact ⟨rfl, HB.out⟩
    · obtain rfl : k = n := by omega
      have hta : l.take k = l := List.take_of_length_le (by omega)
      rw [hta] at HG hsl ⊢
      have hall : l.all Ob.good = true := List.all_eq_true.2 HG.out
      have hx : ext22 l = (hd22 (obsB l), 0) := by unfold ext22; rw [if_pos hall]
      have HX := Lib.hid hx
      obtain ⟨S, hS⟩ : ∃ S, obsB l = S := ⟨_, rfl⟩
      rw [hS] at HX hsl ⊢
      clear hta hall hx hS
      obtain ⟨N, hN⟩ : ∃ N, 65535 - rawN ([32, 0, 0, 0] ++ S) = N := ⟨_, rfl⟩
      have hN1 : N ≤ 65535 := by omega
      have RO := fun W => rof_any ([32, 0, 0, 0] ++ S) W (by rw [List.length_append]; simp; omega)
      rw [hN] at RO
      have HRO := Lib.hid RO
      have HN := Lib.hid hN
      clear RO hN
      have e16 : ((N : Int)).toNat = N := by omega
      have hwr : IntKind.u64.wrap (N : Int) = (N : Int) := by rw [IntKind.wrap_u64]; omega
      go_wp2_with (refine wpList_value (by rfl) (exec_add _ _ _ _ rfl Tryd.underlying9 [32, 0, 0, 0] S rfl rfl (by simp; omega)) ?_)
      refine (HRO.out wr).mono ?_
      rintro e w2 ⟨rfl, rfl⟩
      go_wp2_with fail
      refine (bytes_any (N : Int) 2 wr (by omega) (by omega) (by omega) (by omega)).mono ?_
      rintro e w3 ⟨rfl, hb3⟩
      rw [show ((2 : Int)).toNat = 2 from rfl, e16]
      go_wp2_with (first
        | (refine wpList_value (by rfl) (exec_add _ _ _ _ rfl Tryd.underlying9 [32, 0] (toBe 2 N) rfl rfl (by simp [toBe_length])) ?_)
        | (refine wpList_value (by rfl) (exec_add _ _ _ _ rfl Tryd.underlying9 ([32, 0] ++ toBe 2 N) S rfl rfl (by simp [toBe_length]; omega)) ?_))
      go_ret2
      exact ⟨by rw [HX.out]; unfold hd22; rw [HN.out]; rfl, bthen HB.out hb3⟩
end Go.Proofs.YtckbleiikldloaaDoor

/- What the reference's Stack of extensions (layer 22) computes. No condition but sizes. -/
namespace Go.Proofs.YtckbleiikldloaaDoor
open Go.RowKit
set_option linter.unusedVariables false
set_option maxRecDepth 20000
set_option linter.unusedSimpArgs false

theorem packL_four {x : Ent} (h : x.good) : (packL x).length = 4 := by unfold packL; rw [if_pos h, toBe_length]
theorem packL_le (x : Ent) : (packL x).length ≤ 4 := by
  unfold packL
  split
  · rw [toBe_length]; omega
  · simp
theorem packs_len (l : List Ent) (h : ∀ x ∈ l, x.good) : (l.flatMap packL).length = 4 * l.length := by
  induction l with
  | nil => rfl
  | cons x l ih =>
    rw [List.flatMap_cons, List.length_append, packL_four (h x (by simp)), ih fun y hy => h y (by simp [hy]), List.length_cons]
    omega
theorem packs_snoc (l : List Ent) (k : Nat) (x : Ent) (h : l[k]? = some x) : (l.take (k + 1)).flatMap packL = (l.take k).flatMap packL ++ packL x := by
  rw [take_snoc l k x h]; simp

set_option maxHeartbeats 4000000 in
theorem rstack22_any (A : Option Addr) (n c : Nat) (l : List Ent) (w : World) (hr : Row w w.heap.size 4 A n (evs l)) (hf : ∀ x ∈ l, x.fit) (hn : n ≤ 1099511627776) :
    Calls Tryd.prog 22 #[.slice A n c] w fun e w' => e = .returned (.tuple #[str (stack22 l).1, .int .i64 (stack22 l).2]) ∧ Below w.heap.size w w' := by
  have hlen := ent_len hr
  by_cases h16 : 16 < n
  · have h16' : (16 : Int) < (n : Int) := by omega
    have hx : stack22 l = ([], 51) := by unfold stack22; rw [if_pos (by omega)]
    rw [hx]
    clear hr hf
    go_enter Tryd.func22, Tryd.ntmps22
    go_wp2_with fail
    go_ret2
    exact ⟨rfl, Below.refl _ _⟩
  · have h16' : ¬ (16 : Int) < (n : Int) := by omega
    have HR := Lib.hid hr
    have HF := Lib.hid hf
    clear hr hf
    go_enter Tryd.func22, Tryd.ntmps22
    go_wp2_with fail
    go_loopw [4, 5] (fun s i wr => ∃ k : Nat, k ≤ n ∧ i = .int .i64 k ∧ s = str ((l.take k).flatMap packL) ∧ (∀ x ∈ l.take k, x.good) ∧ Below w.heap.size w wr) (fun _ i _ => n - (intOf i).toNat)
    case atStart => exact ⟨0, by omega, rfl, rfl, by simp, Below.refl _ _⟩
    case round =>
      obtain ⟨k, hk, rfl, rfl, hg, hB⟩ := hrel
      have HG := Lib.hid hg
      have HB := Lib.hid hB
      have hsl : ((l.take k).flatMap packL).length = 4 * k := by rw [packs_len _ hg, List.length_take]; omega
      by_cases hlt : k < n
      · obtain ⟨x, hx⟩ := get_ex l (k := k) (by omega)
        have hxf := HF.out x (List.mem_of_getElem? hx)
        have HXF := Lib.hid hxf
        obtain ⟨b, o, rfl, hb, a0, a1, a2, a3⟩ := ent_row (HR.out.below hB) k x hx
        have HS := Lib.hid (packs_snoc l k x hx)
        have HX := Lib.hid hx
        have HTK := Lib.hid (take_snoc l k x hx)
        obtain ⟨S, hS⟩ : ∃ S, (l.take k).flatMap packL = S := ⟨_, rfl⟩
        rw [hS] at HS hsl ⊢
        have hpl := packL_le x
        have PK := rpack_any x hxf wr
        by_cases hgd : x.good
        · have he : packE x = 0 := by unfold packE; rw [if_pos hgd]
          rw [he] at PK
          obtain ⟨p, hp⟩ : ∃ p, packL x = p := ⟨_, rfl⟩
          rw [hp] at PK HS hpl
          have HP := Lib.hid PK
          clear hB hg hx hxf hS PK he hp
          go_wp2_with fail
          refine HP.out.mono ?_
          rintro e w2 ⟨rfl, hb2⟩
          clear a0 a1 a2 a3
          go_wp2_with (refine wpList_value (by rfl) (exec_add _ _ _ _ rfl Tryd.underlying9 S p rfl rfl (by omega)) ?_)
          go_roundw
          case rel =>
            refine ⟨k + 1, by omega, by simp, by rw [HS.out], ?_, bthen HB.out hb2⟩
            intro y hy
            rw [HTK.out] at hy
            rcases List.mem_append.1 hy with h | h
            · exact HG.out y h
            · simp only [List.mem_singleton] at h
              subst h
              exact hgd
          case measure => simp [intOf]; omega
        · have he : packE x = 1 := by unfold packE; rw [if_neg hgd]
          have hl : packL x = [] := by unfold packL; rw [if_neg hgd]
          rw [he, hl] at PK
          have HP := Lib.hid PK
          have hno : stack22 l = ([], 1) := by
            unfold stack22
            rw [if_neg (by omega), if_neg]
            intro hall
            have := List.all_eq_true.1 hall x (List.mem_of_getElem? hx)
            exact hgd (by simpa using this)
          have HNO := Lib.hid hno
          clear hB hg hx hxf hS PK he hl hno
          go_wp2_with fail
          refine HP.out.mono ?_
          rintro e w2 ⟨rfl, hb2⟩
          clear a0 a1 a2 a3
          go_wp2_with fail
          go_ret2
          exact ⟨by rw [HNO.out]; rfl, bthen HB.out hb2⟩
      · obtain rfl : k = n := by omega
        have hta : l.take k = l := List.take_of_length_le (by omega)
        rw [hta] at HG hsl ⊢
        have hx : stack22 l = (hd22 (obB ⟨1, 1, l.flatMap packL⟩), 0) := by
          unfold stack22
          rw [if_neg (by omega), if_pos]
          exact List.all_eq_true.2 fun y hy => by simpa using HG.out y hy
        obtain ⟨S, hS⟩ : ∃ S, l.flatMap packL = S := ⟨_, rfl⟩
        rw [hS] at hsl hx ⊢
        have HSX := Lib.hid hx
        have hext : ext22 [⟨1, 1, S⟩] = (hd22 (obB ⟨1, 1, S⟩), 0) := by
          unfold ext22
          rw [if_pos (by simp [Ob.good, hsl]; omega)]
          simp [obsB]
        have HX := Lib.hid hext
        clear hta hx hS hext hg hB HG
        go_wp2_with fail
        refine (rext_put _ 1 1 [⟨1, 1, S⟩] _ (by rw [World.size_alloc]; exact Row.new (n := 1) (sz := 3) wr #[.int .u8 1, .int .u8 1, str S] rfl) (by intro y hy; simp at hy; subst hy; exact ⟨by simp, by simp, by simp only; omega⟩) (by omega)).mono ?_
        rintro e w3 ⟨rfl, hb3⟩
        rw [HX.out]
        go_wp2_with fail
        go_ret2
        exact ⟨by rw [HSX.out]; rfl, bthen HB.out (ballocd hb3)⟩
end Go.Proofs.YtckbleiikldloaaDoor


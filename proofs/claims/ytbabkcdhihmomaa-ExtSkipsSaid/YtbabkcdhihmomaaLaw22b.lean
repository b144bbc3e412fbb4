/- The walk of ExtPuts (layer 22). No condition. -/
import Derived.Test.YtbabkcdhihmomaaLaw22a
import Derived.Test.YtbabkcdhihmomaaOpenObs
namespace Go.Proofs.Ytbabkcdhihmomaa
open Go.RowKit
set_option linter.unusedVariables false
set_option maxRecDepth 20000
set_option linter.unusedSimpArgs false

theorem Ent.wf.fit {x : Ent} (h : x.wf) : x.fit := ⟨(bd_i64 h.label).1, (bd_i64 h.label).2, h.cls.1, h.cls.2, h.ttl.1, h.ttl.2⟩
theorem ext22_map (l : List Xo) : (ext22 (l.map Xo.ob)).2 = 0 ∨ (ext22 (l.map Xo.ob)).2 = 1 := by
  unfold ext22
  split
  · exact .inl rfl
  · exact .inr rfl
theorem fit_of {l : List Xo} {w : World} (h : ∀ x ∈ l, x.ok w) (hs : ∀ x ∈ l, x.n ≤ 1100) : ∀ y ∈ l.map Xo.ob, y.fit := by
  intro y hy
  obtain ⟨x, hx, rfl⟩ := List.mem_map.1 hy
  have h1 := (h x hx).len
  have h2 := hs x hx
  exact ⟨(h x hx).cls, (h x hx).kind, by show x.body.length ≤ _; omega⟩
set_option maxRecDepth 100000 in
set_option maxHeartbeats 4000000 in
theorem walk_ExtPuts (W : World) (r : Xs) (hr : r.ok W) (A1 : Option Addr) (n1 c1 : Nat) (s : List Ent) (hs : Row W W.heap.size 4 A1 n1 (evs s)) (hsc : n1 ≤ c1) (hscm : c1 ≤ maxLen) (hwf : ∀ x ∈ s, x.wf) :
    Calls Try.prog 3 #[r.v, .slice A1 n1 c1] W fun e w' => e = .returned (.bool true) ∧ Below W.heap.size W w' := by
  obtain ⟨A, n, c, l⟩ := r
  have hrow := hr.row
  have hle := hr.le
  have hcap := hr.cap
  have hall := hr.all
  dsimp only at hrow hle hcap hall
  show Calls Try.prog 3 #[.slice A n c, .slice A1 n1 c1] W fun e w' => e = .returned (.bool true) ∧ Below W.heap.size W w'
  have hlen : l.length = n := xo_len hrow
  have hslen : s.length = n1 := ent_len hs
  have AW := Lib.hid (awake22 W)
  have HROW := Lib.hid hrow
  have HS := Lib.hid hs
  have HALL := Lib.hid hall
  have HF := Lib.hid (fun x hx => (hwf x hx).fit)
  have HL := Lib.hid hlen
  have SM := Lib.hid (fun (w : World) (h : Row w w.heap.size 3 A n (xos l)) (h2 : ∀ x ∈ l, x.ok w) => small22_any A n c l w h h2 (by omega))
  have hn1 : n1 ≤ maxLen := by omega
  unfold maxLen at hn1
  clear hr hrow hcap hall hs hwf hlen hslen hscm
  by_cases hsm : (l.all (fun x => decide (x.n ≤ 1100)) && decide (n ≤ 10)) = true
  · rw [hsm] at SM
    rw [Bool.and_eq_true, List.all_eq_true] at hsm
    have hn10 : n ≤ 10 := by simpa using hsm.2
    have hs11 : ∀ x ∈ l, x.n ≤ 1100 := fun x hx => by simpa using hsm.1 x hx
    have HS11 := Lib.hid hs11
    clear hsm hs11
    by_cases h40 : 40 < n1
    · have h40i : (40 : Int) < (n1 : Int) := by omega
      go_enter Try.func3, Try.ntmps3
      go_wp2_with fail
      refine AW.out.mono ?_
      rintro e w1 ⟨rfl, hb1⟩
      have HB := Lib.hid hb1
      clear hb1
      go_wp2_with fail
      refine (SM.out w1 ((HROW.out.below HB.out).more HB.out.size) (fun x hx => (HALL.out x hx).on HB.out)).mono ?_
      rintro e w2 ⟨rfl, rfl⟩
      go_wp2_with fail
      go_ret
      exact ⟨rfl, HB.out⟩
    · have h40i : ¬ (40 : Int) < (n1 : Int) := by omega
      obtain ⟨F, hF⟩ : ∃ F, (ext22 (l.map Xo.ob)).1 = F := ⟨_, rfl⟩
      obtain ⟨q, hq⟩ : ∃ q, (ext22 (l.map Xo.ob)).2 = q := ⟨_, rfl⟩
      obtain ⟨m, hm⟩ : ∃ m, F.length = m := ⟨_, rfl⟩
      obtain ⟨T, hT⟩ : ∃ T, (stack22 s).1 = T := ⟨_, rfl⟩
      obtain ⟨p, hp⟩ : ∃ p, (stack22 s).2 = p := ⟨_, rfl⟩
      obtain ⟨k, hk⟩ : ∃ k, T.length = k := ⟨_, rfl⟩
      have P1 := fun (w : World) (h : Row w w.heap.size 3 A n (xos l)) (h2 : ∀ x ∈ l, x.ok w) => put22_any A n c l w h h2 (by omega)
      have P2 := fun (w : World) (A' : Option Addr) (c' : Nat) (h : Row w w.heap.size 3 A' n (obs (l.map Xo.ob))) => rext_put A' n c' (l.map Xo.ob) w h (fit_of HALL.out HS11.out) (by omega)
      have P3 := fun (w : World) (h : Row w w.heap.size 4 A1 n1 (evs s)) => stack22p_any A1 n1 c1 s w h HF.out (by omega)
      have P4 := fun (w : World) (h : Row w w.heap.size 4 A1 n1 (evs s)) => rstack22_any A1 n1 c1 s w h HF.out (by omega)
      rw [hF, hq] at P1 P2
      rw [hm] at P1
      rw [hT, hp] at P3 P4
      rw [hk] at P3
      have H1 := Lib.hid P1
      have H2 := Lib.hid P2
      have H3 := Lib.hid P3
      have H4 := Lib.hid P4
      clear P1 P2 P3 P4 hF hq hm hT hp hk
      go_enter Try.func3, Try.ntmps3
      go_wp2_with fail
      refine AW.out.mono ?_
      rintro e w1 ⟨rfl, hb1⟩
      have HB := Lib.hid hb1
      clear hb1
      go_wp2_with fail
      refine (SM.out w1 ((HROW.out.below HB.out).more HB.out.size) (fun x hx => (HALL.out x hx).on HB.out)).mono ?_
      rintro e w2 ⟨rfl, rfl⟩
      go_wp2_with fail
      refine (H1.out w2 ((HROW.out.below HB.out).more HB.out.size) (fun x hx => (HALL.out x hx).on HB.out)).mono ?_
      rintro e w3 ⟨A3, c3, rfl, ho3, hb3⟩
      have HO3 := Lib.hid ho3
      replace HB := Lib.hid (bthen HB.out hb3)
      clear ho3 hb3
      go_wp2_with fail
      refine (plain22_any A n c l w3 ((HROW.out.below HB.out).more HB.out.size) (fun x hx => (HALL.out x hx).on HB.out) (by omega)).mono ?_
      rintro e w4 ⟨A4, c4, rfl, ho4, hb4⟩
      have HO4 := Lib.hid ho4
      replace HB := Lib.hid (bthen HB.out hb4)
      replace HO3 := Lib.hid (HO3.out.below hb4)
      clear ho4 hb4
      go_wp2_with fail
      refine (H2.out w4 A4 c4 HO4.out.row).mono ?_
      rintro e w5 ⟨rfl, hb5⟩
      replace HB := Lib.hid (bthen HB.out hb5)
      replace HO3 := Lib.hid (HO3.out.below hb5)
      clear hb5
      go_wp2_with fail
      refine (H3.out w5 ((HS.out.below HB.out).more HB.out.size)).mono ?_
      rintro e w6 ⟨A6, c6, rfl, ho6, hb6⟩
      have HO6 := Lib.hid ho6
      replace HB := Lib.hid (bthen HB.out hb6)
      replace HO3 := Lib.hid (HO3.out.below hb6)
      clear ho6 hb6
      go_wp2_with fail
      refine (H4.out w6 ((HS.out.below HB.out).more HB.out.size)).mono ?_
      rintro e w7 ⟨rfl, hb7⟩
      replace HB := Lib.hid (bthen HB.out hb7)
      replace HO3 := Lib.hid (HO3.out.below hb7)
      replace HO6 := Lib.hid (HO6.out.below hb7)
      clear hb7
      go_wp2_with (first
        | (refine wpList_str (by rfl) _ 26 9 5 rfl Try.underlying26 Try.underlying5 Try.underlying9 _ A3 m c3 F rfl HO3.out.row ?_)
        | (refine wpList_str (by rfl) _ 26 9 5 rfl Try.underlying26 Try.underlying5 Try.underlying9 _ A6 k c6 T rfl HO6.out.row ?_))
      go_ret
      exact ⟨rfl, HB.out⟩
  · have hsf : (l.all (fun x => decide (x.n ≤ 1100)) && decide (n ≤ 10)) = false := by simpa using hsm
    rw [hsf] at SM
    clear hsm hsf
    go_enter Try.func3, Try.ntmps3
    go_wp2_with fail
    refine AW.out.mono ?_
    rintro e w1 ⟨rfl, hb1⟩
    have HB := Lib.hid hb1
    clear hb1
    go_wp2_with fail
    refine (SM.out w1 ((HROW.out.below HB.out).more HB.out.size) (fun x hx => (HALL.out x hx).on HB.out)).mono ?_
    rintro e w2 ⟨rfl, rfl⟩
    go_wp2_with fail
    go_ret
    exact ⟨rfl, HB.out⟩
end Go.Proofs.Ytbabkcdhihmomaa

/- The walk of layer 3's EntryPuts. No condition but those of the row. -/
import Derived.Test.YtfcnohhcgbebdaaAwake03
import Derived.Test.YtfcnohhcgbebdaaRsame
import Derived.Test.YtfcnohhcgbebdaaOpenEnt
namespace Go.Proofs.Ytfcnohhcgbebdaa
open Go.RowKit
set_option linter.unusedVariables false
set_option linter.unusedSimpArgs false

theorem Ent.wf.fit {x : Ent} (h : x.wf) : x.fit := ⟨(bd_i64 h.label).1, (bd_i64 h.label).2, h.cls.1, h.cls.2, h.ttl.1, h.ttl.2⟩

set_option maxHeartbeats 2000000 in
theorem walk_EntryPuts (w : World) (A : Option Addr) (n c : Nat) (l : List Ent) (hr : Row w w.heap.size 4 A n (evs l)) (hc : n ≤ c) (hcm : c ≤ maxLen) (hl : ∀ x ∈ l, x.wf)
    (A2 : Option Addr) (n2 c2 : Nat) (l2 : List Ent) (hr2 : Row w w.heap.size 4 A2 n2 (evs l2)) (hc2 : n2 ≤ c2) (hcm2 : c2 ≤ maxLen) (hl2 : ∀ x ∈ l2, x.wf) :
    Calls Try.prog 5 #[.slice A n c, .slice A2 n2 c2] w fun e w' => e = .returned (.bool true) ∧ Below w.heap.size w w' := by
  have HR := Lib.hid hr
  have HQ := Lib.hid hr2
  have HF := Lib.hid (fun x hx => (hl x hx).fit)
  clear hr hr2 hl hl2
  by_cases hs : n ≤ 40
  rotate_left
  · have hs1 : (40 : Int) < (n : Int) := by omega
    go_enter Try.func5, Try.ntmps5
    go_wp2_with fail
    refine (awake_any _).mono ?_
    rintro e w1 ⟨rfl, hb1⟩
    go_wp2
    go_ret
    exact ⟨rfl, hb1⟩
  have hs1 : ¬ (40 : Int) < (n : Int) := by omega
  by_cases hs' : n2 ≤ 40
  rotate_left
  · have hs2 : (40 : Int) < (n2 : Int) := by omega
    go_enter Try.func5, Try.ntmps5
    go_wp2_with fail
    refine (awake_any _).mono ?_
    rintro e w1 ⟨rfl, hb1⟩
    go_wp2
    go_ret
    exact ⟨rfl, hb1⟩
  have hs2 : ¬ (40 : Int) < (n2 : Int) := by omega
  go_enter Try.func5, Try.ntmps5
  go_wp2_with fail
  refine (awake_any _).mono ?_
  rintro e w1 ⟨rfl, hb1⟩
  have HW1 := Lib.hid hb1
  clear hb1
  go_wp2_with fail
  refine (put_any A n c l w1 ((HR.out.below HW1.out).more HW1.out.size) HF.out (by omega)).mono ?_
  rintro e w2 ⟨A3, c3, rfl, hown3, hb3⟩
  have HW2 := Lib.hid (bthen HW1.out hb3)
  have HX2 := Lib.hid hown3.ok
  clear hown3 hb3 HW1
  go_wp2_with fail
  refine (rput_any A n c l w2 ((HR.out.below HW2.out).more HW2.out.size) HF.out (by omega)).mono ?_
  rintro e w3 ⟨rfl, hb3⟩
  have HW3 := Lib.hid (bthen HW2.out hb3)
  have HX3 := Lib.hid (HX2.out.below hb3)
  clear hb3 HW2 HX2
  go_wp2_with (refine wpList_str (by rfl) (.tmp 31) 24 9 5 rfl Try.underlying24 Try.underlying5 Try.underlying9 _ A3 _ c3 _ (by rfl) HX3.out.row ?_)
  refine (same_any A A2 n n2 c c2 l l2 w3 ((HR.out.below HW3.out).more HW3.out.size) ((HQ.out.below HW3.out).more HW3.out.size) (by omega) (by omega)).mono ?_
  rintro e w4 ⟨rfl, hb4⟩
  have HW4 := Lib.hid (bthen HW3.out hb4)
  clear hb4 HW3 HX3
  go_wp2_with fail
  refine (rsame_any A A2 n n2 c c2 l l2 w4 ((HR.out.below HW4.out).more HW4.out.size) ((HQ.out.below HW4.out).more HW4.out.size) (by omega) (by omega)).mono ?_
  rintro e w5 ⟨rfl, hb5⟩
  have HW5 := Lib.hid (bthen HW4.out hb5)
  clear hb5 HW4
  go_wp2_with fail
  go_ret
  exact ⟨rfl, HW5.out⟩

end Go.Proofs.Ytfcnohhcgbebdaa

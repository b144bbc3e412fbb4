/- The document's example of the checksum holds: footplatelaw02.awake answers true. No condition. -/
import Derived.Test.YtjacgpankndigaaRef02
namespace Go.Proofs.Ytjacgpankndigaa
open Go.RowKit
set_option linter.unusedVariables false

def hexL : List UInt8 := [52, 53, 48, 48, 48, 48, 55, 51, 48, 48, 48, 48, 52, 48, 48, 48, 52, 48, 49, 49, 48, 48, 48, 48, 99, 48, 97, 56, 48, 48, 48, 49, 99, 48, 97, 56, 48, 48, 99, 55]
def hexR : List UInt8 := [69, 0, 0, 115, 0, 0, 64, 0, 64, 17, 0, 0, 192, 168, 0, 1, 192, 168, 0, 199]
theorem hex_tells : Tells hexL hexR := by decide +kernel
theorem unhex_awake (w : World) : Calls Try.prog 18 #[.string { data := #[52, 53, 48, 48, 48, 48, 55, 51, 48, 48, 48, 48, 52, 48, 48, 48, 52, 48, 49, 49, 48, 48, 48, 48, 99, 48, 97, 56, 48, 48, 48, 49, 99, 48, 97, 56, 48, 48, 99, 55] }] w fun e w' => e = .returned (.tuple #[str hexR, .bool true]) ∧ Below w.heap.size w w' :=
  unhex_any hexL hexR w hex_tells (by decide)


set_option maxHeartbeats 1000000 in
theorem awake_any (w : World) : Calls Try.prog 8 #[] w fun e w' => e = .returned (.bool true) ∧ Below w.heap.size w w' := by
  have kc := fun (w : World) (C : Array Value) (n c g : Nat) (hg : w.heap.size = g) => run_const (P := Try.prog) w 22 5 C n c Try.underlying22 Try.underlying5 g hg
  go_enter Try.func8, Try.ntmps8
  go_wp2_with fail
  refine (unhex_awake _).mono ?_
  rintro e w1 ⟨rfl, hb1⟩
  have hlen : hexR.length = 20 := rfl
  go_wp2_with (refine wpList_toBytes rfl _ 9 22 5 rfl Try.underlying22 Try.underlying5 Try.underlying9 hexR rfl ?_ (by decide); intro A1 c1 w2 hr1 hb2 hc1 hm1)
  refine (of_lit #[.slice A1 20 c1] [⟨A1, 20, c1, hexR⟩] 1 1 w2 rfl rfl (by omega) (by simp only [List.mem_cons, List.not_mem_nil, or_false]; rintro r rfl; exact ⟨hr1, hc1, hm1⟩) (by rw [flat_one]; decide) _ rfl).mono ?_
  rintro e w3 ⟨rfl, hb3⟩
  rw [flat_one, show ((65535 - rawN hexR : Nat) : Int) = 47201 by decide +kernel]
  go_wp2_with (refine wpList_toBytes rfl _ 9 22 5 rfl Try.underlying22 Try.underlying5 Try.underlying9 hexR rfl ?_ (by decide); intro A2 c2 w4 hr2 hb4 hc2 hm2)
  refine (check_lit #[.slice A2 20 c2] [⟨A2, 20, c2, hexR⟩] 1 1 w4 rfl rfl (by omega) (by simp only [List.mem_cons, List.not_mem_nil, or_false]; rintro r rfl; exact ⟨hr2, hc2, hm2⟩) (by rw [flat_one]; decide) _ rfl).mono ?_
  rintro e w5 ⟨rfl, hb5⟩
  rw [flat_one, show decide (rawN hexR = 65535) = false by decide +kernel]
  go_wp2_with (refine wpList_toBytes rfl _ 9 22 5 rfl Try.underlying22 Try.underlying5 Try.underlying9 hexR rfl ?_ (by decide); intro A3 c3 w6 hr3 hb6 hc3 hm3)
  have hq := (row_lit (e := 5) w6 #[.int .u8 184, .int .u8 97] [184, 97] 2 rfl rfl)
  refine (check_lit #[.slice A3 20 c3, .slice (some ⟨w6.heap.size, 0, none⟩) 2 2] [⟨A3, 20, c3, hexR⟩, ⟨some ⟨w6.heap.size, 0, none⟩, 2, 2, [184, 97]⟩] 2 2 _ rfl rfl (by omega) (by
    simp only [List.mem_cons, List.not_mem_nil, or_false]
    rintro r (rfl | rfl)
    · exact Bs.ok.below ⟨hr3, hc3, hm3⟩ ((Below.refl _ _).alloc (Nat.le_refl _) _)
    · exact ⟨by simpa using hq, Nat.le_refl _, by simp [maxLen]⟩) (by rw [flat_two]; decide) _ (by simp)).mono ?_
  rintro e w7 ⟨rfl, hb7⟩
  rw [flat_two, show decide (rawN (hexR ++ [184, 97]) = 65535) = true by decide +kernel]
  go_wp2_with fail
  refine (raw_any none 0 0 [] _ (Row.nil _ _ _ _) (by simp) (by omega) (by decide)).mono ?_
  rintro e w8 ⟨rfl, hb8⟩
  rw [show ((rawN (flat []) : Nat) : Int) = 0 by decide +kernel]
  go_wp2_with fail
  have q1 := (row_litF (e := 5) w8 #[.int .u8 97, .int .u8 98, .int .u8 99, .int .u8 100] (4, 5) [97, 98, 99, 100] 4 rfl rfl)
  have q2 := (row_litF (e := 5) (w8.alloc (.cells #[.int .u8 97, .int .u8 98, .int .u8 99, .int .u8 100] 5 (4, 5))) #[.int .u8 101, .int .u8 102, .int .u8 103, .int .u8 104] (4, 5) [101, 102, 103, 104] 4 rfl rfl)
  refine (pseudo_any _ _ 4 4 4 4 [97, 98, 99, 100] [101, 102, 103, 104] 17 8 _ ⟨(q1.below ((Below.refl _ _).alloc (by simp) _)).more (by simp), by simp, by simp [maxLen]⟩ ⟨by simpa using q2, by simp, by simp [maxLen]⟩ (by omega) (by omega) (by omega) (by omega) (by omega) (by omega)).mono ?_
  rintro e w9 ⟨r, rfl, hr, hrl, hb9⟩
  have hrn := hr.len
  rw [hrl, show (pseudoF [97, 98, 99, 100] [101, 102, 103, 104] (17 : Int).toNat 8).length = 12 by decide +kernel] at hrn
  obtain ⟨rA, rn, rc, rl⟩ := r
  simp only at hrn
  subst hrn
  unfold Bs.v
  clear hr hrl q1 q2
  go_wp2_with fail
  refine (turn_any 1 2 2 _ (by omega) (by omega) (by omega) (by omega) (by omega) (by omega)).mono ?_
  rintro e w10 ⟨rfl, rfl⟩
  rw [show ((65535 - foldN ((65535 : Int) - 1 + (65535 - 2) + 2).toNat : Nat) : Int) = 1 by decide +kernel]
  go_wp2_with fail
  go_ret
  refine ⟨rfl, ?_⟩
  have b8 : Below w8.heap.size w8 w9 := ballocd (ballocd hb9)
  have b7 : Below w6.heap.size w6 w7 := ballocd hb7
  exact bthen hb1 (bthen hb2 (bthen hb3 (bthen hb4 (bthen hb5 (bthen hb6 (bthen b7 (bthen hb8 b8)))))))
end Go.Proofs.Ytjacgpankndigaa

/- Texts of this claim put together, in build order: each one's own remark stands ahead of it. -/
import Derived.Test.YtbemhcihmlijaaaG15
import Derived.Deep.DeepCutAuto
/- What the table's drop (layer 9) computes. No condition but sizes. -/
namespace Go.Proofs.Ytbemhcihmlijaaa
open Go.RowKit
set_option linter.unusedVariables false
set_option maxRecDepth 20000
set_option linter.unusedSimpArgs false

/-- a node taken out -/
def dropT (t : Tb) (k : Nat) : Tb := { t with N := t.N.set k Nd.zero, F := t.F ++ [k] }
theorem Px.zero_fit : Px.zero.fit := ⟨rfl, by decide⟩
set_option maxHeartbeats 4000000 in
theorem tdrop_any (w : World) (g : Nat) (t : Tb) (A Af : Option Addr) (c cf : Nat) (hT : Tab w g t A c Af cf) (k : Nat) (hk : k < t.N.length) (hFl : t.F.length ≤ 1000000) :
  Calls Try.prog 45 #[.pointer (some ⟨g, 0, none⟩), .int .i64 (k : Int)] w fun e w' => ∃ Af' cf', e = .returned (.tuple #[]) ∧ TabTo w g A c Af cf w' (dropT t k) A c Af' cf' := by
 have HFIT := Lib.hid hT.fit
 obtain ⟨x0, hx0⟩ := get_ex t.N hk
 obtain ⟨bA, hA, hblkA, hbA, hneA, _, _, _, hcA⟩ := hT.node hx0
 subst hA
 have HT := Lib.hid hT
 have HGA := Lib.hid hneA
 have HBA := Lib.hid hblkA
 have c0 : w.cell? ⟨g, 3, none⟩ = some (.slice (some ⟨bA, 0, none⟩) t.N.length c) := hT.blk.cell 3
 have hlt : (k : Int) < (t.N.length : Int) := by omega
 clear hT hx0 hblkA hneA
 go_enter Try.func45, Try.ntmps45
 go_upto_region 1 with (first
  | (refine wpList_value (by rfl) (exec_buildNd0 rfl) ?_)
  | (refine wpList_store_own (by rfl) 69 _ _ rfl bA (k * 22) Nd.zero.cells rfl rfl HT.out.nodes (sizeNd _ rfl) (by rw [Nd.zero.cells_length rfl]; omega) (by omega) Nd.zero.one ?_; intro w1 ho1 hg1 hs1))
 have hput : (nds t.N).take (k * 22) ++ Nd.zero.cells ++ (nds t.N).drop (k * 22 + Nd.zero.cells.length) = nds (t.N.set k Nd.zero) := by
  rw [Nd.zero.cells_length rfl, show k * 22 + 22 = (k + 1) * 22 by omega]
  exact nds_put t.N HFIT.out k hk Nd.zero
 rw [hput] at ho1
 have HK1 := Lib.hid (HT.out.blk.grown hg1 (fun e => HGA.out (by injection e with e; exact e.symm)))
 have hF1 := HT.out.free.kept hg1 (fun b hb e => HT.out.nf bA HBA.out (by injection e with e; rw [e]; exact hb))
 have HF1 := Lib.hid hF1
 have HO1 := Lib.hid ho1
 have HKP := Lib.hid (Kept.of_grown (S := own3 g (some ⟨bA, 0, none⟩) c Af cf) hg1 (fun j hj => by injection hj with hj; exact .inr (.inl (by rw [← hj]; exact HBA.out))))
 have hbk := Blk.new w1 3 [.int .i64 (k : Int)]
 have hrw := hbk.row 1 0 1 (by simp)
 rw [List.drop_zero, Nat.one_mul] at hrw
 have HRI := Lib.hid hrw
 have HONE := Lib.hid (ints_one [k])
 have HFA := Lib.hid (HF1.out.alloc (.cells [Value.int .i64 (k : Int)].toArray 3))
 have c1 : w1.cell? ⟨g, 4, none⟩ = some (.slice Af t.F.length cf) := HK1.out.cell 4
 have hg1l := HK1.out.lt
 have hs1' : w.heap.size = w1.heap.size := hs1.symm
 have hsA : (w1.alloc (.cells [Value.int .i64 (k : Int)].toArray 3)).heap.size = w1.heap.size + 1 := by simp
 clear ho1 hg1 hs1 hF1 hput hbk hrw c0
 go_wp2_with (first
  | (at_builtin; refine wpList_append_Own _ rfl _ _ 63 rfl 0 3 _ 1 8 Try.underlying63 infoInt rfl (by decide) _ _ _ _ rfl HFA.out (w1.alloc (.cells [Value.int .i64 (k : Int)].toArray 3)).heap.size (some ⟨w1.heap.size, 0, none⟩) 1 1 (ints [k]) rfl HRI.out HONE.out (by simp only [maxLen]; omega) (by omega) (Nat.zero_le _) ?_; intro A7 c7 w7 hown7 hg7 hA7)
  | (refine wpList_store_slI (by rfl) _ _ rfl g 4 A7 (t.F.length + 1) c7 rfl rfl 65 _ _ ((HK1.out.on (alloc_below _ _)).grown hg7 (fun e => HT.out.fg _ e.symm rfl)) rfl ?_; intro w8 hk8 hg8 hs8))
 have hgF : ∀ b, Go.Proofs.Ytbemhcihmlijaaa.blk A7 c7 = some b → Go.Proofs.Ytbemhcihmlijaaa.blk Af cf = some b ∨ w1.heap.size ≤ b := by
  intro b hb
  rcases hA7 with ⟨h1, h2⟩ | ⟨g7, h1, h2⟩
  ·rw [h1, h2] at hb; exact .inl hb
  ·obtain ⟨x, hx, hxb, _⟩ := blk_some hb
   rw [h1] at hx
   injection hx with hx
   rw [← hx] at hxb
   simp only at hxb
   exact .inr (by omega)
 have hAlt : bA < w1.heap.size := by omega
 have hk8' : Blk w8 g 65 (tbC (dropT t k) (some ⟨bA, 0, none⟩) c A7 c7) := by
  have e : (tbC t (some ⟨bA, 0, none⟩) c Af cf).set 4 (.slice A7 (t.F.length + 1) c7) = tbC (dropT t k) (some ⟨bA, 0, none⟩) c A7 c7 := by simp [tbC, dropT]
  rw [← e]; exact hk8
 have hkp7 : Kept (own3 g (some ⟨bA, 0, none⟩) c Af cf) w w7 := (HKP.out.then_below (alloc_below _ _)).trans (Kept.of_grown (S := own3 g (some ⟨bA, 0, none⟩) c Af cf) hg7 (fun j hj => .inr (.inr hj))) (fun x hx _ => hx)
 have hkp8 : Kept (own3 g (some ⟨bA, 0, none⟩) c Af cf) w w8 := hkp7.trans (Kept.of_grown (S := own3 g (some ⟨bA, 0, none⟩) c Af cf) hg8 (fun j hj => by injection hj with hj; exact .inl hj.symm)) (fun x hx _ => hx)
 have hT8 : Tab w8 g (dropT t k) (some ⟨bA, 0, none⟩) c A7 c7 := by
  refine ⟨hk8', ?_, ?_, set_fit HFIT.out Px.zero_fit, HT.out.ng, ?_, ?_⟩
  ·have h1 := HO1.out.alloc (.cells [Value.int .i64 (k : Int)].toArray 3)
   have h2 := h1.kept hg7 (fun b hb e => HT.out.nf b hb e)
   have h3 := h2.kept hg8 (fun b hb e => HT.out.ng b hb (by injection e with e; exact e.symm))
   simpa [dropT] using h3
  ·have h3 := hown7.kept hg8 (fun b hb e => by
    injection e with e
    rcases hgF b hb with h | h
    ·exact HT.out.fg b h e.symm
    ·omega)
   rw [← ints_append] at h3
   simpa [dropT] using h3
  ·intro b hb e
   rcases hgF b hb with h | h
   ·exact HT.out.fg b h e
   ·omega
  ·intro b hb e
   have h1 : b = bA := by
    have h9 := HBA.out
    rw [hb] at h9
    injection h9
   rcases hgF b e with h | h
   ·exact HT.out.nf b hb h
   ·omega
 refine bodyPost_end (results_none rfl _ _ _) rfl ?_
 refine ⟨rfl, A7, c7, hT8, hkp8, fun b hb => ?_⟩
 rcases hb with hb | hb | hb
 ·exact .inl (.inl hb)
 ·exact .inl (.inr (.inl hb))
 ·rcases hgF b hb with h | h
  ·exact .inl (.inr (.inr h))
  ·exact .inr (by omega)
end Go.Proofs.Ytbemhcihmlijaaa


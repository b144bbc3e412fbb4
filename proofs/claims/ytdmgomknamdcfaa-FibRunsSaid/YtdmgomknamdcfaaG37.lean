/- Texts of this claim put together, in build order: each one's own remark stands ahead of it. -/
import Derived.Test.YtdmgomknamdcfaaG33
import Derived.Test.YtdmgomknamdcfaaG36
/- Both kinds' tables, and the reference's rows, apart in memory (layer 10). No condition but sizes. -/
namespace Go.Proofs.Ytdmgomknamdcfaa
open Go.RowKit
set_option linter.unusedVariables false
set_option maxRecDepth 20000
set_option linter.unusedSimpArgs false

theorem Kept.weaken {S T : Nat → Prop} {a b : World} (h : Kept S a b) (hS : ∀ x, S x → T x) : Kept T a b :=
 ⟨h.os, h.tape, h.output, h.size, fun k hk hn => h.block k hk (fun hs => hn (hS k hs))⟩
/-- the program's tables, and the reference's rows, apart: all blocks of the tables lie behind B; the blocks G belong to neither -/
def TwoF (w : World) (B : Nat) (G : List Nat) (f : Option Nat) (is : Bool) (room : Int) (K : Nat) (L : Bool → List Itm) (F : Rf) (M : Bool → List Itm) : Prop :=
 ∃ S, FbO w S f is room L K ∧ (∀ b, S b → B ≤ b ∧ b < w.heap.size ∧ b ∉ G) ∧ ∀ k, Row w w.heap.size 19 (F.A k) (F.n k) (its (M k)) ∧ F.n k ≤ F.c k ∧ (0 < F.n k → ∀ x, F.A k = some x → ¬ S x.block ∧ x.block ∉ G)
section
variable {w w' : World} {B : Nat} {G : List Nat} {f : Option Nat} {is : Bool} {room : Int} {K : Nat} {L M : Bool → List Itm} {F : Rf}
theorem TwoF.more (h : TwoF w B G f is room K L F M) (hb : Below w.heap.size w w') {G' : List Nat} (hG : ∀ b, b ∈ G' → b ∈ G ∨ w.heap.size ≤ b) : TwoF w' B G' f is room K L F M := by
 obtain ⟨S, h1, h2, h3⟩ := h
 exact ⟨S, h1.on hb, fun b hs => ⟨(h2 b hs).1, Nat.lt_of_lt_of_le (h2 b hs).2.1 hb.size, fun hg => (hG b hg).elim (h2 b hs).2.2 (fun e => absurd (h2 b hs).2.1 (Nat.not_lt.2 e))⟩,
  fun k => ⟨(Kept.of_below (S := fun _ => False) hb).row (h3 k).1 (fun _ _ _ h => h), (h3 k).2.1, fun hn x hx => ⟨((h3 k).2.2 hn x hx).1, fun hg => (hG _ hg).elim ((h3 k).2.2 hn x hx).2 (fun e => absurd (row_lt9 (h3 k).1 hn x hx) (Nat.not_lt.2 e))⟩⟩⟩
theorem TwoF.on (h : TwoF w B G f is room K L F M) (hb : Below w.heap.size w w') : TwoF w' B G f is room K L F M := h.more hb fun b hb => .inl hb
theorem TwoF.store (h : TwoF w B G f is room K L F M) {g : Nat} (hg : g ∈ G) (hk : Kept (fun b => b = g) w w') : TwoF w' B G f is room K L F M := by
 obtain ⟨S, h1, h2, h3⟩ := h
 exact ⟨S, h1.kept hk (fun b hb e => (h2 b hb).2.2 (e ▸ hg)), fun b hs => ⟨(h2 b hs).1, Nat.lt_of_lt_of_le (h2 b hs).2.1 hk.size, (h2 b hs).2.2⟩,
  fun k => ⟨hk.row (h3 k).1 (fun hn x hx e => ((h3 k).2.2 hn x hx).2 (e ▸ hg)), (h3 k).2⟩⟩
theorem TwoF.upto (h : TwoF w B G f is room K L F M) {K' : Nat} (hK : K ≤ K') : TwoF w B G f is room K' L F M := by
 obtain ⟨S, h1, h2⟩ := h
 exact ⟨S, h1.mono (fun _ _ h => h) hK, h2⟩
theorem TwoF.fb (h : TwoF w B G f is room K L F M) : ∃ S, FbO w S f is room L K := by obtain ⟨S, h1, h2⟩ := h; exact ⟨S, h1⟩
theorem TwoF.lok (h : TwoF w B G f is room K L F M) (b : Bool) : Lok b (L b) := by obtain ⟨S, h1, h2⟩ := h; exact h1.lok b
theorem TwoF.row (h : TwoF w B G f is room K L F M) (b : Bool) : Row w w.heap.size 19 (F.A b) (F.n b) (its (M b)) := by obtain ⟨S, h1, h2, h3⟩ := h; exact (h3 b).1
theorem TwoF.cap (h : TwoF w B G f is room K L F M) (b : Bool) : F.n b ≤ F.c b := by obtain ⟨S, h1, h2, h3⟩ := h; exact (h3 b).2.1
theorem twoF_put (h : TwoF w B G f is room K L F M) (hB : B ≤ w.heap.size) (hG : ∀ b ∈ G, b < w.heap.size) (hK : K ≤ 999990) (p : Px) (hf : p.fit) (vl : Int) :
  Calls Try.prog 8 #[ptV f, .agg p.cells.toArray, .int .i64 vl] w fun e w' => e = .returned (.int .i64 (putR is p.six room (L p.six) p vl).2) ∧ TwoF w' B G f is room (K + 2) (setL L p.six (putR is p.six room (L p.six) p vl).1) F M ∧ Kept (fun b => B ≤ b ∧ b ∉ G) w w' := by
 obtain ⟨S, h1, h2, h3⟩ := h
 refine (fput_any h1 hK p hf vl).mono ?_
 rintro e w' ⟨rfl, h6, h7⟩
 refine ⟨rfl, ⟨_, h6, fun b hb => ?_, fun k => ⟨h7.row (h3 k).1 (fun hn x hx => ((h3 k).2.2 hn x hx).1), (h3 k).2.1, fun hn x hx => ⟨fun hs => ?_, ((h3 k).2.2 hn x hx).2⟩⟩⟩, h7.weaken (fun b hb => ⟨(h2 b hb).1, (h2 b hb).2.2⟩)⟩
 ·rcases hb with hb | ⟨hb, hb'⟩
  ·exact ⟨(h2 b hb).1, Nat.lt_of_lt_of_le (h2 b hb).2.1 h7.size, (h2 b hb).2.2⟩
  exact ⟨Nat.le_trans hB hb, hb', fun hg => absurd (hG b hg) (Nat.not_lt.2 hb)⟩
 rcases hs with hs | ⟨hs, _⟩
 ·exact ((h3 k).2.2 hn x hx).1 hs
 exact absurd (row_lt9 (h3 k).1 hn x hx) (Nat.not_lt.2 hs)
theorem twoF_del (h : TwoF w B G f is room K L F M) (hB : B ≤ w.heap.size) (hG : ∀ b ∈ G, b < w.heap.size) (hK : K ≤ 999990) (p : Px) (hf : p.fit) :
  Calls Try.prog 17 #[ptV f, .agg p.cells.toArray] w fun e w' => e = .returned (.int .i64 (delR is p.six (L p.six) p).2) ∧ TwoF w' B G f is room K (setL L p.six (delR is p.six (L p.six) p).1) F M ∧ Kept (fun b => B ≤ b ∧ b ∉ G) w w' := by
 obtain ⟨S, h1, h2, h3⟩ := h
 refine (fdel_any h1 hK p hf).mono ?_
 rintro e w' ⟨rfl, h6, h7⟩
 refine ⟨rfl, ⟨_, h6, fun b hb => ?_, fun k => ⟨h7.row (h3 k).1 (fun hn x hx => ((h3 k).2.2 hn x hx).1), (h3 k).2.1, fun hn x hx => ⟨fun hs => ?_, ((h3 k).2.2 hn x hx).2⟩⟩⟩, h7.weaken (fun b hb => ⟨(h2 b hb).1, (h2 b hb).2.2⟩)⟩
 ·rcases hb with hb | ⟨hb, hb'⟩
  ·exact ⟨(h2 b hb).1, Nat.lt_of_lt_of_le (h2 b hb).2.1 h7.size, (h2 b hb).2.2⟩
  exact ⟨Nat.le_trans hB hb, hb', fun hg => absurd (hG b hg) (Nat.not_lt.2 hb)⟩
 rcases hs with hs | ⟨hs, _⟩
 ·exact ((h3 k).2.2 hn x hx).1 hs
 exact absurd (row_lt9 (h3 k).1 hn x hx) (Nat.not_lt.2 hs)
theorem twoF_row (h : TwoF w B G f is room K L F M) (hG : ∀ b ∈ G, b < w.heap.size) (hb : Below w.heap.size w w') (b : Bool) {M' : List Itm} {A' : Option Addr} {n' c' : Nat} (hr : Row w' w'.heap.size 19 A' n' (its M')) (hc : n' ≤ c') (hN : NewA w (F.A b) (F.n b) A' n') : TwoF w' B G f is room K L (F.set b A' n' c') (setL M b M') := by
 obtain ⟨S, h1, h2, h3⟩ := h
 refine ⟨S, h1.on hb, fun b hs => ⟨(h2 b hs).1, Nat.lt_of_lt_of_le (h2 b hs).2.1 hb.size, (h2 b hs).2.2⟩, fun k => ?_⟩
 by_cases hk : k = b
 ·subst hk
  show Row w' w'.heap.size 19 (if k = k then A' else F.A k) (if k = k then n' else F.n k) (its (if k = k then M' else M k)) ∧ (if k = k then n' else F.n k) ≤ (if k = k then c' else F.c k) ∧ (0 < (if k = k then n' else F.n k) → ∀ x, (if k = k then A' else F.A k) = some x → ¬ S x.block ∧ x.block ∉ G)
  simp only [if_true]
  refine ⟨hr, hc, fun hn x hx => ?_⟩
  rcases hN hn with ⟨e, hl⟩ | ⟨y, e, hl⟩
  ·exact (h3 k).2.2 (by omega) x (by rw [← e]; exact hx)
  rw [hx] at e
  injection e with e
  subst e
  exact ⟨fun hs => absurd (h2 _ hs).2.1 (Nat.not_lt.2 hl), fun hg => absurd (hG _ hg) (Nat.not_lt.2 hl)⟩
 show Row w' w'.heap.size 19 (if k = b then A' else F.A k) (if k = b then n' else F.n k) (its (if k = b then M' else M k)) ∧ (if k = b then n' else F.n k) ≤ (if k = b then c' else F.c k) ∧ (0 < (if k = b then n' else F.n k) → ∀ x, (if k = b then A' else F.A k) = some x → ¬ S x.block ∧ x.block ∉ G)
 simp only [if_neg hk]
 exact ⟨(Kept.of_below (S := fun _ => False) hb).row (h3 k).1 (fun _ _ _ h => h), (h3 k).2⟩
theorem TwoF.hM (h : TwoF w B G f is room K L F L) (hl : ∀ b, (L b).length ≤ 60) : ∀ b, (∀ x ∈ L b, x.1.good) ∧ F.n b ≤ 60 ∧ F.n b ≤ F.c b := fun b => by
 have hg : ∀ x ∈ L b, x.1.good := (h.lok b).good
 have hn := its_row (h.row b) (fun x hx => (hg x hx).fit)
 exact ⟨hg, by rw [← hn]; exact hl b, h.cap b⟩
end
/-- the reference answers as a table of this room does -/
def SameP (F : Rf) (is : Bool) (room : Int) : Prop := ∀ b L p vl, putR F.is (F.s b) (F.r b) L p vl = putR is b room L p vl ∧ delR F.is (F.s b) L p = delR is b L p
theorem SameP.set {F : Rf} {is : Bool} {room : Int} (h : SameP F is room) (b : Bool) (A : Option Addr) (n c : Nat) : SameP (F.set b A n c) is room := h
def Rf.new (room : Int) : Rf := ⟨true, fun b => b, fun _ => room, fun _ => none, fun _ => 0, fun _ => 0⟩
theorem new10_both (f : Option Nat) (room : Int) (hne : f = none ↔ (room < 1 ∨ 65536 < room)) : ∃ F : Rf, newR false room ++ newR true room = F.cells ∧ SameP F f.isSome room ∧ (∀ b, F.A b = none) ∧ (∀ b, F.n b = 0) ∧ (∀ b, F.c b = 0) := by
 cases f with
 | none =>
  refine ⟨Rf.zero, ?_, fun b L p vl => ?_, fun _ => rfl, fun _ => rfl, fun _ => rfl⟩
  ·unfold newR
   rw [if_pos (hne.1 rfl), if_pos (hne.1 rfl)]
   rfl
  show putR false _ _ L p vl = putR false b room L p vl ∧ delR false _ L p = delR false b L p
  unfold putR delR okR
  simp
 | some g =>
  have hn : ¬ (room < 1 ∨ 65536 < room) := fun e => by have := hne.2 e; cases this
  refine ⟨Rf.new room, ?_, fun b L p vl => ⟨rfl, rfl⟩, fun _ => rfl, fun _ => rfl, fun _ => rfl⟩
  unfold newR
  rw [if_neg hn, if_neg hn]
  rfl
theorem twoF_new {w w0 : World} {B : Nat} {G : List Nat} {f : Option Nat} {is : Bool} {room : Int} {K : Nat} {L : Bool → List Itm} {F : Rf} (hT : FbO w (ext (fun _ => False) w0 w) f is room L K) (hB : B ≤ w0.heap.size) (hG : ∀ b ∈ G, b < w0.heap.size ∨ w.heap.size ≤ b) (hA : ∀ b, F.A b = none) (hn : ∀ b, F.n b = 0) (hc : ∀ b, F.c b = 0) : TwoF w B G f is room K L F (fun _ => []) :=
 ⟨_, hT, fun b hb => hb.elim False.elim (fun h => ⟨Nat.le_trans hB h.1, h.2, fun hg => (hG b hg).elim (fun e => absurd h.1 (Nat.not_le.2 e)) (fun e => absurd e (Nat.not_le.2 h.2))⟩), fun k => by rw [hA k, hn k, hc k]; exact ⟨Row.nil _ _ _ _, Nat.le_refl _, fun h => absurd h (by omega)⟩⟩
/-- a slice that holds a row of items -/
def RowV (L : List Itm) (v : Value) (W : World) : Prop := ∃ A n c, v = .slice A n c ∧ Row W W.heap.size 19 A n (its L)
theorem RowV.on {L : List Itm} {v : Value} {W V : World} (h : RowV L v W) (hb : Below W.heap.size W V) : RowV L v V := by
 obtain ⟨A, n, c, rfl, hr⟩ := h
 exact ⟨A, n, c, rfl, (Kept.of_below (S := fun _ => False) hb).row hr (fun _ _ _ h => h)⟩
/-! a script's step as a block -/
def St9.zero : St9 := ⟨0, Px.zero, 0⟩
theorem sizeSt (x : St9) (h : x.p.addr.length = 16) : (Try.prog.info? 32).map (·.size) = some x.cells.length := by rw [x.cells_length h]; kernel_rfl
theorem zeroSt (w : World) : (zeroValue 32).run Try.prog w = .ok (.agg St9.zero.cells.toArray) w := by kernel_rfl
theorem oneSt (x : St9) : ∀ u ∈ x.cells, u.oneCell' = true := by
 intro u hu
 rcases List.mem_cons.1 hu with rfl | hu
 ·rfl
 exact itC_one (x.p, x.v) u hu
theorem st_blk_px {w : World} {g : Nat} {t : TypeId} {x : St9} (h : Blk w g t x.cells) (hx : x.p.addr.length = 16) : w.rangeAt g 1 x.p.cells := by
 have hr := h.range 1 18
 rw [show (x.cells.drop 1).take 18 = x.p.cells from List.take_left' (x.p.cells_length hx)] at hr
 exact hr
theorem st_blk_ad {w : World} {g : Nat} {t : TypeId} {x : St9} (h : Blk w g t x.cells) (hx : x.p.addr.length = 16) : w.rangeAt g 2 (bv x.p.addr) := by
 have hr := h.range 2 16
 rw [show (x.cells.drop 2).take 16 = bv x.p.addr from by
  show ((bv x.p.addr ++ [(Value.int .i64 x.p.len)]) ++ [(Value.int .i64 x.v)]).take 16 = _
  rw [List.append_assoc]
  exact List.take_left' (by unfold bv; simp [hx])] at hr
 exact hr
end Go.Proofs.Ytdmgomknamdcfaa


/- A table and the reference's row, apart in memory: what each step of a script makes of both (layer 9). No condition but sizes. -/
import Derived.Test.YtbemhcihmlijaaaG29
import Derived.Test.YtbemhcihmlijaaaG30
namespace Go.Proofs.Ytbemhcihmlijaaa
open Go.RowKit
set_option linter.unusedVariables false
set_option maxRecDepth 20000
set_option linter.unusedSimpArgs false

theorem Kept.weaken {S T : Nat → Prop} {a b : World} (h : Kept S a b) (hS : ∀ x, S x → T x) : Kept T a b :=
 ⟨h.os, h.tape, h.output, h.size, fun k hk hn => h.block k hk (fun hs => hn (hS k hs))⟩
/-- a table, and the reference's row, apart: all blocks of the table lie behind B; the blocks G belong to neither -/
def Two (w : World) (B : Nat) (G : List Nat) (o : Option Nat) (is six : Bool) (room : Int) (K : Nat) (L M : List Itm) (A : Option Addr) (n c : Nat) : Prop :=
 ∃ S, TabO w S o is six room L K ∧ (∀ b, S b → B ≤ b ∧ b < w.heap.size ∧ b ∉ G) ∧ Row w w.heap.size 19 A n (its M) ∧ n ≤ c ∧ (0 < n → ∀ x, A = some x → ¬ S x.block ∧ x.block ∉ G)
section
variable {w w' : World} {B : Nat} {G : List Nat} {o : Option Nat} {is six : Bool} {room : Int} {K : Nat} {L M : List Itm} {A : Option Addr} {n c : Nat}
theorem row_lt (h : Row w w.heap.size 19 A n (its M)) (hn : 0 < n) (x : Addr) (hx : A = some x) : x.block < w.heap.size := by
 obtain ⟨b, o, rfl, hb, _⟩ := h.cells hn
 injection hx with hx
 subst hx
 exact hb
theorem Two.more (h : Two w B G o is six room K L M A n c) (hb : Below w.heap.size w w') {G' : List Nat} (hG : ∀ b, b ∈ G' → b ∈ G ∨ w.heap.size ≤ b) : Two w' B G' o is six room K L M A n c := by
 obtain ⟨S, h1, h2, h3, h4, h5⟩ := h
 exact ⟨S, h1.on hb, fun b hs => ⟨(h2 b hs).1, Nat.lt_of_lt_of_le (h2 b hs).2.1 hb.size, fun hg => (hG b hg).elim (h2 b hs).2.2 (fun e => absurd (h2 b hs).2.1 (Nat.not_lt.2 e))⟩,
  (Kept.of_below (S := fun _ => False) hb).row h3 (fun _ _ _ h => h), h4, fun hn x hx => ⟨(h5 hn x hx).1, fun hg => (hG _ hg).elim (h5 hn x hx).2 (fun e => absurd (row_lt h3 hn x hx) (Nat.not_lt.2 e))⟩⟩
theorem Two.on (h : Two w B G o is six room K L M A n c) (hb : Below w.heap.size w w') : Two w' B G o is six room K L M A n c := h.more hb fun b hb => .inl hb
theorem Two.store (h : Two w B G o is six room K L M A n c) {g : Nat} (hg : g ∈ G) (hk : Kept (fun b => b = g) w w') : Two w' B G o is six room K L M A n c := by
 obtain ⟨S, h1, h2, h3, h4, h5⟩ := h
 exact ⟨S, h1.kept hk (fun b hb e => (h2 b hb).2.2 (e ▸ hg)), fun b hs => ⟨(h2 b hs).1, Nat.lt_of_lt_of_le (h2 b hs).2.1 hk.size, (h2 b hs).2.2⟩,
  hk.row h3 (fun hn x hx e => (h5 hn x hx).2 (e ▸ hg)), h4, h5⟩
theorem Two.upto (h : Two w B G o is six room K L M A n c) {K' : Nat} (hK : K ≤ K') : Two w B G o is six room K' L M A n c := by
 obtain ⟨S, h1, h2⟩ := h
 exact ⟨S, h1.mono (fun _ _ h => h) hK, h2⟩
theorem Two.lok (h : Two w B G o is six room K L M A n c) : Lok six L := by obtain ⟨S, h1, h2⟩ := h; exact h1.lok
theorem Two.len (h : Two w B G o is six room K L M A n c) : L.length ≤ K := by obtain ⟨S, h1, h2⟩ := h; exact h1.len
theorem Two.row (h : Two w B G o is six room K L M A n c) : Row w w.heap.size 19 A n (its M) := by obtain ⟨S, h1, h2, h3, h4⟩ := h; exact h3
theorem Two.cap (h : Two w B G o is six room K L M A n c) : n ≤ c := by obtain ⟨S, h1, h2, h3, h4, h5⟩ := h; exact h4
theorem Two.rlen (h : Two w B G o is six room K L M A n c) (hM : ∀ x ∈ M, x.1.fit) : M.length = n := its_row h.row hM
theorem two_new {w0 : World} (hT : TabO w (ext (fun _ => False) w0 w) o is six room L K) (hB : B ≤ w0.heap.size) (hG : ∀ b ∈ G, w.heap.size ≤ b) : Two w B G o is six room K L [] none 0 0 :=
 ⟨_, hT, fun b hb => hb.elim False.elim (fun h => ⟨Nat.le_trans hB h.1, h.2, fun hg => absurd (hG b hg) (Nat.not_le.2 h.2)⟩), Row.nil _ _ _ _, Nat.le_refl _, fun h => absurd h (by omega)⟩
theorem two_put (h : Two w B G o is six room K L M A n c) (hB : B ≤ w.heap.size) (hG : ∀ b ∈ G, b < w.heap.size) (hK : K ≤ 999990) (p : Px) (hf : p.fit) (v : Int) :
  Calls Try.prog 11 #[ptV o, .agg p.cells.toArray, .int .i64 v] w fun e w' => e = .returned (.int .i64 (putR is six room L p v).2) ∧ Two w' B G o is six room (K + 2) (putR is six room L p v).1 M A n c ∧ Kept (fun b => B ≤ b ∧ b ∉ G) w w' := by
 obtain ⟨S, h1, h2, h3, h4, h5⟩ := h
 refine (tput_O h1 hK p hf v).mono ?_
 rintro e w' ⟨rfl, h6, h7⟩
 refine ⟨rfl, ⟨_, h6, fun b hb => ?_, h7.row h3 (fun hn x hx => (h5 hn x hx).1), h4, fun hn x hx => ⟨fun hs => ?_, (h5 hn x hx).2⟩⟩, h7.weaken (fun b hb => ⟨(h2 b hb).1, (h2 b hb).2.2⟩)⟩
 ·rcases hb with hb | ⟨hb, hb'⟩
  ·exact ⟨(h2 b hb).1, Nat.lt_of_lt_of_le (h2 b hb).2.1 h7.size, (h2 b hb).2.2⟩
  ·exact ⟨Nat.le_trans hB hb, hb', fun hg => absurd (hG b hg) (Nat.not_lt.2 hb)⟩
 ·rcases hs with hs | ⟨hs, _⟩
  ·exact (h5 hn x hx).1 hs
  ·exact absurd (row_lt h3 hn x hx) (Nat.not_lt.2 hs)
theorem two_del (h : Two w B G o is six room K L M A n c) (hB : B ≤ w.heap.size) (hG : ∀ b ∈ G, b < w.heap.size) (hK : K ≤ 999990) (p : Px) (hf : p.fit) :
  Calls Try.prog 17 #[ptV o, .agg p.cells.toArray] w fun e w' => e = .returned (.int .i64 (delR is six L p).2) ∧ Two w' B G o is six room K (delR is six L p).1 M A n c ∧ Kept (fun b => B ≤ b ∧ b ∉ G) w w' := by
 obtain ⟨S, h1, h2, h3, h4, h5⟩ := h
 refine (tdel_O h1 hK p hf).mono ?_
 rintro e w' ⟨rfl, h6, h7⟩
 refine ⟨rfl, ⟨_, h6, fun b hb => ?_, h7.row h3 (fun hn x hx => (h5 hn x hx).1), h4, fun hn x hx => ⟨fun hs => ?_, (h5 hn x hx).2⟩⟩, h7.weaken (fun b hb => ⟨(h2 b hb).1, (h2 b hb).2.2⟩)⟩
 ·rcases hb with hb | ⟨hb, hb'⟩
  ·exact ⟨(h2 b hb).1, Nat.lt_of_lt_of_le (h2 b hb).2.1 h7.size, (h2 b hb).2.2⟩
  ·exact ⟨Nat.le_trans hB hb, hb', fun hg => absurd (hG b hg) (Nat.not_lt.2 hb)⟩
 ·rcases hs with hs | ⟨hs, _⟩
  ·exact (h5 hn x hx).1 hs
  ·exact absurd (row_lt h3 hn x hx) (Nat.not_lt.2 hs)
theorem two_row (h : Two w B G o is six room K L M A n c) (hG : ∀ b ∈ G, b < w.heap.size) (hb : Below w.heap.size w w') {M' : List Itm} {A' : Option Addr} {n' c' : Nat} (hr : Row w' w'.heap.size 19 A' n' (its M')) (hc : n' ≤ c') (hN : NewA w A n A' n') : Two w' B G o is six room K L M' A' n' c' := by
 obtain ⟨S, h1, h2, h3, h4, h5⟩ := h
 refine ⟨S, h1.on hb, fun b hs => ⟨(h2 b hs).1, Nat.lt_of_lt_of_le (h2 b hs).2.1 hb.size, (h2 b hs).2.2⟩, hr, hc, fun hn x hx => ?_⟩
 rcases hN hn with ⟨e, hl⟩ | ⟨y, e, hl⟩
 ·exact h5 (by omega) x (by rw [← e]; exact hx)
 ·rw [hx] at e
  injection e with e
  subst e
  exact ⟨fun hs => absurd (h2 _ hs).2.1 (Nat.not_lt.2 hl), fun hg => absurd (hG _ hg) (Nat.not_lt.2 hl)⟩
theorem two_do (h : Two w B G o is six room K L M A n c) (hG : ∀ b ∈ G, b < w.heap.size) (hM : ∀ x ∈ M, x.1.fit) (hn : n ≤ 65536) (kind : Int) (p : Px) (hf : p.fit) (v : Int) :
  Calls Try.prog 18 #[.agg (tC is six room (.slice A n c)).toArray, .int .i64 kind, .agg p.cells.toArray, .int .i64 v] w fun e w' => ∃ A' n' c', e = .returned (.tuple #[.agg (tC is six room (.slice A' n' c')).toArray, .int .i64 (doR is six room M kind p v).2]) ∧ Two w' B G o is six room K L (doR is six room M kind p v).1 A' n' c' ∧ Below w.heap.size w w' := by
 refine (rdo_any is six room M hM A n c hn h.cap kind p v hf w h.row).mono ?_
 rintro e w' ⟨A', n', c', rfl, hr, hc, hb, hN⟩
 exact ⟨A', n', c', rfl, two_row h hG hb hr hc hN, hb⟩
theorem two_rput (h : Two w B G o is six room K L M A n c) (hG : ∀ b ∈ G, b < w.heap.size) (hM : ∀ x ∈ M, x.1.fit) (hn : n ≤ 65536) (p : Px) (hf : p.fit) (v : Int) :
  Calls Try.prog 23 #[.agg (tC is six room (.slice A n c)).toArray, .agg p.cells.toArray, .int .i64 v] w fun e w' => ∃ A' n' c', e = .returned (.tuple #[.agg (tC is six room (.slice A' n' c')).toArray, .int .i64 (putR is six room M p v).2]) ∧ Two w' B G o is six room K L (putR is six room M p v).1 A' n' c' ∧ Below w.heap.size w w' := by
 refine (rput_any is six room M hM A n c hn h.cap p v hf w h.row).mono ?_
 rintro e w' ⟨A', n', c', rfl, hr, hc, hb, hN⟩
 exact ⟨A', n', c', rfl, two_row h hG hb hr hc hN, hb⟩
theorem two_get (h : Two w B G o is six room K L M A n c) (p : Px) (hf : p.fit) :
  Calls Try.prog 10 #[ptV o, .agg p.cells.toArray] w fun e w' => e = .returned (.tuple #[.int .i64 (getC L p), .bool (hasC L p)]) ∧ Below w.heap.size w w' := by
 obtain ⟨S, h1, h2⟩ := h
 exact tget_O h1 p hf
theorem two_look (h : Two w B G o is six room K L M A n c) (ad : List UInt8) (ha : ad.length = 16) :
  Calls Try.prog 14 #[ptV o, .agg (bv ad).toArray] w fun e w' => e = .returned (.tuple #[.agg (itC (ansL' L ad).1).toArray, .bool (ansL' L ad).2]) ∧ Below w.heap.size w w' := by
 obtain ⟨S, h1, h2⟩ := h
 exact tlook_O h1 ad ha
theorem two_len (h : Two w B G o is six room K L M A n c) : Calls Try.prog 21 #[ptV o] w fun e w' => e = .returned (.int .i64 (L.length : Int)) ∧ w = w' := by
 obtain ⟨S, h1, h2⟩ := h
 exact tlen_O h1
theorem two_same (h : Two w B G o is six room K L L A n c) (hK : K ≤ 999990) (i2 x2 : Bool) (r2 : Int) :
  Calls Try.prog 22 #[ptV o, .agg (tC i2 x2 r2 (.slice A n c)).toArray] w fun e w' => e = .returned (.bool true) ∧ Below w.heap.size w w' := by
 obtain ⟨S, h1, h2, h3, h4⟩ := h
 exact same_any S o is six room L K w h1 hK i2 x2 r2 A n c h3
end
theorem doR_put (is six : Bool) (room : Int) (L : List Itm) (p : Px) (v : Int) : doR is six room L 0 p v = putR is six room L p v := by unfold doR; rw [if_pos rfl]
theorem doR_del (is six : Bool) (room : Int) (L : List Itm) (p : Px) (v : Int) : doR is six room L 1 p v = delR is six L p := by unfold doR; rw [if_neg (by decide), if_pos rfl]
theorem doR_none (is six : Bool) (room : Int) (L : List Itm) (k : Int) (h0 : ¬ k = 0) (h1 : ¬ k = 1) (p : Px) (v : Int) : doR is six room L k p v = (L, 0) := by unfold doR; rw [if_neg h0, if_neg h1]
/-- New, both: a table is there just if the reference's is -/
theorem new_both {w : World} {S : Nat → Prop} {o : Option Nat} (six : Bool) (room : Int) (hne : o = none ↔ (room < 1 ∨ 65536 < room)) (h : TabO w S o (!o.isNone) six room [] 1) :
  ∃ s1 r1, TabO w S o o.isSome s1 r1 [] 1 ∧ newR six room = tC o.isSome s1 r1 (.slice none 0 0) := by
 cases o with
 | none => exact ⟨false, 0, ⟨rfl, rfl⟩, by unfold newR; rw [if_pos (hne.1 rfl)]; rfl⟩
 | some g => exact ⟨six, room, h, by unfold newR; rw [if_neg (fun e => by have := hne.2 e; cases this)]; rfl⟩
theorem exec_neT {w : World} {o' : Oper} {c : Act} (x y : Operand) (ty : TypeId) (ho : o'.op = .binOp .neq 24 x y ty) (o : Option Nat) (r : Bool) (hr : o.isSome = r) (hx : c.eval x = ptV o) (hy : c.eval y = .pointer none) : (execOp c.eval o').run Try.prog w = .ok (.value (.bool r)) w := by
 subst hr
 unfold execOp
 cases o <;> simp only [ho, hx, hy, ptV] <;> go_simp
theorem blk_px {w : World} {g : Nat} {t : TypeId} {y : Itm} (h : Blk w g t (itC y)) (hy : y.1.addr.length = 16) : w.rangeAt g 0 y.1.cells := by
 have hr := h.range 0 18
 rw [List.drop_zero, show (itC y).take 18 = y.1.cells from List.take_left' (y.1.cells_length hy)] at hr
 exact hr
theorem mem_two {g h N : Nat} (hN : N ≤ h) : ∀ b, b ∈ [g, h] → b ∈ [g] ∨ N ≤ b := by
 intro b hb
 rcases List.mem_cons.1 hb with e | e
 ·exact .inl (by rw [e]; exact List.mem_cons_self)
 ·exact .inr (by rw [List.mem_singleton.1 e]; exact hN)
theorem lt_two {g h N : Nat} (hg : g < N) (hh : h < N) : ∀ b ∈ [g, h], b < N := by
 intro b hb
 rcases List.mem_cons.1 hb with e | e
 ·rw [e]; exact hg
 ·rw [List.mem_singleton.1 e]; exact hh
theorem lt_one {g N : Nat} (hg : g < N) : ∀ b ∈ [g], b < N := by
 intro b hb
 rw [List.mem_singleton.1 hb]; exact hg
theorem Two.less {w : World} {B g h : Nat} {o : Option Nat} {is six : Bool} {room : Int} {K : Nat} {L M : List Itm} {A : Option Addr} {n c : Nat} (H : Two w B [g, h] o is six room K L M A n c) : Two w B [g] o is six room K L M A n c :=
 H.more (Below.refl _ _) fun b hb => .inl (by rw [List.mem_singleton.1 hb]; exact List.mem_cons_self)
/-! a script's step as a block -/
def St9.zero : St9 := ⟨0, Px.zero, 0⟩
theorem sizeSt (x : St9) (h : x.p.addr.length = 16) : (Try.prog.info? 32).map (·.size) = some x.cells.length := by rw [x.cells_length h]; kernel_rfl
theorem zeroSt (w : World) : (zeroValue 32).run Try.prog w = .ok (.agg St9.zero.cells.toArray) w := by kernel_rfl
theorem oneSt (x : St9) : ∀ u ∈ x.cells, u.oneCell' = true := by
 intro u hu
 rcases List.mem_cons.1 hu with rfl | hu
 ·rfl
 ·exact itC_one (x.p, x.v) u hu
theorem st_blk_px {w : World} {g : Nat} {t : TypeId} {x : St9} (h : Blk w g t x.cells) (hx : x.p.addr.length = 16) : w.rangeAt g 1 x.p.cells := by
 have hr := h.range 1 18
 rw [show (x.cells.drop 1).take 18 = x.p.cells from List.take_left' (x.p.cells_length hx)] at hr
 exact hr
theorem st_blk_ad {w : World} {g : Nat} {t : TypeId} {x : St9} (h : Blk w g t x.cells) (hx : x.p.addr.length = 16) : w.rangeAt g 2 (bv x.p.addr) := by
 have hr := h.range 2 16
 rw [show (x.cells.drop 2).take 16 = bv x.p.addr from by
  show ((bv x.p.addr ++ [(Value.int .i64 x.p.len)]) ++ [(Value.int .i64 x.v)]).take 16 = _
  rw [List.append_assoc]
  exact List.take_left' (by unfold bv; simp [hx])] at hr
 exact hr
end Go.Proofs.Ytbemhcihmlijaaa

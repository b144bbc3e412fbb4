/- Texts of this claim put together, in build order: each one's own remark stands ahead of it. -/
import Derived.Test.YtckbleiikldloaaDoorG15
import Derived.Test.YtckbleiikldloaaDoorG10
import Derived.Test.YtckbleiikldloaaDoorG11
import Derived.Test.YtckbleiikldloaaDoorG07
import Derived.Test.YtckbleiikldloaaDoorG16
import Derived.Deep.DeepCutAuto
/- Plain laws of IPv4's packets: what is put is parsed; a time to live set; a bit turned. No condition. -/
namespace Go.Proofs.YtckbleiikldloaaDoor
open Go.RowKit
set_option linter.unusedVariables false
set_option maxRecDepth 20000
set_option linter.unusedSimpArgs false

theorem getD_mid (X Z : List UInt8) (u : UInt8) (i : Nat) (hX : X.length = i) : (X ++ u :: Z).getD i 0 = u := by
  rw [List.getD_eq_getElem?_getD, List.getElem?_append_right (by omega), hX, Nat.sub_self]
  rfl
theorem be_toBe2 (x : Nat) (h : x ≤ 65535) : be (toBe 2 x) = x := by rw [be_toBe]; exact Nat.mod_eq_of_lt (by omega)
theorem sum_toBe2 (x : Nat) (h : x ≤ 65535) : sumB false (toBe 2 x) = x := by
  rw [toBe2 x h]
  simp only [sumB, UInt8.toNat_ofNat']
  omega
theorem odd_toBe2 (b : Bool) (x : Nat) : oddB b (toBe 2 x) = b := by unfold oddB; simp [toBe_length]
theorem sum_twos (xs : List Int) (h : ∀ x ∈ xs, 0 ≤ x ∧ x ≤ 65535) (r : List UInt8) : sumB false (twos xs ++ r) = (xs.map Int.toNat).sum + sumB false r := by
  induction xs with
  | nil => simp [twos]
  | cons x xs ih =>
    have h1 : twos (x :: xs) = toBe 2 x.toNat ++ twos xs := rfl
    have hx := h x (by simp)
    rw [h1, List.append_assoc, sumB_append, odd_toBe2, ih (fun y hy => h y (by simp [hy])), sum_toBe2 _ (by omega)]
    simp only [List.map_cons, List.sum_cons]
    omega

/-- bounds of a header that may be put -/
theorem good4 (h : H4) (hf : h.fit) (hx : ¬ h.bad) (all : Nat) (hl : all ≤ 65535) : (0 ≤ word0 h ∧ word0 h ≤ 65535) ∧ (0 ≤ flag4 h ∧ flag4 h ≤ 65535) ∧ (0 ≤ word4 h ∧ word4 h ≤ 65535) ∧ 16384 ≤ word0 h := by
  obtain ⟨t0, t1⟩ := hf.tos
  obtain ⟨l0, l1⟩ := hf.ttl
  obtain ⟨p0, p1⟩ := hf.pro
  unfold H4.bad at hx
  refine ⟨?_, ?_, ?_, ?_⟩
  · unfold word0; omega
  · unfold flag4; split <;> split <;> omega
  · unfold word4; omega
  · unfold word0; omega
theorem good4_all (h : H4) (hf : h.fit) (hx : ¬ h.bad) (all : Nat) (hl : all ≤ 65535) : ∀ x ∈ [word0 h, (all : Int), h.id, flag4 h, word4 h], 0 ≤ x ∧ x ≤ 65535 := by
  obtain ⟨g1, g2, g3, _⟩ := good4 h hf hx all hl
  have g4 := hf.id
  intro x hx
  simp only [List.mem_cons, List.not_mem_nil, or_false] at hx
  rcases hx with rfl | rfl | rfl | rfl | rfl
  · exact g1
  · omega
  · exact g4
  · exact g2
  · exact g3
theorem sum_hdA (h : H4) (hf : h.fit) (hx : ¬ h.bad) (all : Nat) (hl : all ≤ 65535) (r : List UInt8) : sumB false (hdA h all ++ r) = (word0 h).toNat + all + h.id.toNat + (flag4 h).toNat + (word4 h).toNat + sumB false r := by
  unfold hdA
  rw [sum_twos _ (good4_all h hf hx all hl)]
  simp only [List.map_cons, List.map_nil, List.sum_cons, List.sum_nil, Int.toNat_natCast]
  omega
theorem sumC_le (h : H4) (all : Nat) : sumC h all ≤ 65535 := by unfold sumC; omega
theorem oddB_even (b : Bool) (l : List UInt8) (h : l.length % 2 = 0) : oddB b l = b := by unfold oddB; rw [if_pos h]
theorem raw_head4 (h : H4) (all : Nat) : rawN (head4 h all) = 65535 := by
  have e : sumB false (head4 h all) = sumB false (hdA h all ++ bk4 h) + sumC h all := by
    unfold head4
    rw [List.append_assoc, sumB_append, sumB_append, odd_toBe2, sumB_append, oddB_even _ _ (by rw [hdA_length]), sum_toBe2 _ (sumC_le h all)]
    omega
  unfold rawN
  rw [e]
  exact fold_right _

theorem par4_pkt (h : H4) (hf : h.fit) (hx : ¬ h.bad) (l more : List UInt8) (hl : 20 + h.opt.length + l.length ≤ 65535) :
    par4 (pkt4 h l ++ more) = ({ h with len := ((20 + h.opt.length + l.length : Nat) : Int) }, 0) := by
  obtain ⟨all, hall⟩ : ∃ all, 20 + h.opt.length + l.length = all := ⟨_, rfl⟩
  have hp : pkt4 h l = head4 h all ++ l := by unfold pkt4; rw [hall]
  have heq := hdA_eq h hf hx all
  have hbad := hx
  unfold H4.bad at hbad
  obtain ⟨S, hS⟩ : ∃ S, 20 + h.opt.length = S := ⟨_, rfl⟩
  rw [hS] at heq
  have hk := hf.ok
  obtain ⟨t0, t1⟩ := hf.tos
  obtain ⟨d0, d1⟩ := hf.id
  obtain ⟨l0, l1⟩ := hf.ttl
  obtain ⟨p0, p1⟩ := hf.pro
  obtain ⟨_, g2, _, _⟩ := good4 h hf hx all (by omega)
  have hfl := flag4
  obtain ⟨R, hR⟩ : ∃ R, R = toBe 2 (sumC h all) ++ bk4 h ++ l ++ more := ⟨_, rfl⟩
  have hP : pkt4 h l ++ more = hdA h all ++ R := by rw [hp, head4, hR]; simp
  have hub0 : ((ub (64 + (S : Int) / 4)).toNat : Int) = 64 + (S : Int) / 4 := ub_nat _ (by omega) (by omega)
  have h0 : (pkt4 h l ++ more).getD 0 0 = ub (64 + (S : Int) / 4) := by rw [hP, heq]; rfl
  have h1 : (pkt4 h l ++ more).getD 1 0 = ub h.tos := by rw [hP, heq]; rfl
  have h8 : (pkt4 h l ++ more).getD 8 0 = ub h.ttl := by
    rw [hP, heq, show [ub (64 + (S : Int) / 4), ub h.tos] ++ toBe 2 all ++ toBe 2 h.id.toNat ++ toBe 2 (flag4 h).toNat ++ [ub h.ttl, ub h.pro] ++ R = ([ub (64 + (S : Int) / 4), ub h.tos] ++ toBe 2 all ++ toBe 2 h.id.toNat ++ toBe 2 (flag4 h).toNat) ++ ub h.ttl :: (ub h.pro :: R) by simp]
    exact getD_mid _ _ _ 8 (by simp [toBe_length])
  have h9 : (pkt4 h l ++ more).getD 9 0 = ub h.pro := by
    rw [hP, heq, show [ub (64 + (S : Int) / 4), ub h.tos] ++ toBe 2 all ++ toBe 2 h.id.toNat ++ toBe 2 (flag4 h).toNat ++ [ub h.ttl, ub h.pro] ++ R = ([ub (64 + (S : Int) / 4), ub h.tos] ++ toBe 2 all ++ toBe 2 h.id.toNat ++ toBe 2 (flag4 h).toNat ++ [ub h.ttl]) ++ ub h.pro :: R by simp]
    exact getD_mid _ _ _ 9 (by simp [toBe_length])
  have hL : numF (pkt4 h l ++ more) 2 2 = all := by
    rw [hP, heq, show [ub (64 + (S : Int) / 4), ub h.tos] ++ toBe 2 all ++ toBe 2 h.id.toNat ++ toBe 2 (flag4 h).toNat ++ [ub h.ttl, ub h.pro] ++ R = [ub (64 + (S : Int) / 4), ub h.tos] ++ toBe 2 all ++ (toBe 2 h.id.toNat ++ toBe 2 (flag4 h).toNat ++ [ub h.ttl, ub h.pro] ++ R) by simp]
    rw [numF_mid _ _ _ 2 2 rfl (toBe_length _ _), be_toBe2 _ (by omega)]
  have hI : numF (pkt4 h l ++ more) 4 2 = h.id.toNat := by
    rw [hP, heq, show [ub (64 + (S : Int) / 4), ub h.tos] ++ toBe 2 all ++ toBe 2 h.id.toNat ++ toBe 2 (flag4 h).toNat ++ [ub h.ttl, ub h.pro] ++ R = ([ub (64 + (S : Int) / 4), ub h.tos] ++ toBe 2 all) ++ toBe 2 h.id.toNat ++ (toBe 2 (flag4 h).toNat ++ [ub h.ttl, ub h.pro] ++ R) by simp]
    rw [numF_mid _ _ _ 4 2 (by simp [toBe_length]) (toBe_length _ _), be_toBe2 _ (by omega)]
  have hF : numF (pkt4 h l ++ more) 6 2 = (flag4 h).toNat := by
    rw [hP, heq, show [ub (64 + (S : Int) / 4), ub h.tos] ++ toBe 2 all ++ toBe 2 h.id.toNat ++ toBe 2 (flag4 h).toNat ++ [ub h.ttl, ub h.pro] ++ R = ([ub (64 + (S : Int) / 4), ub h.tos] ++ toBe 2 all ++ toBe 2 h.id.toNat) ++ toBe 2 (flag4 h).toNat ++ ([ub h.ttl, ub h.pro] ++ R) by simp]
    rw [numF_mid _ _ _ 6 2 (by simp [toBe_length]) (toBe_length _ _), be_toBe2 _ (by omega)]
  have hsz : size4n (pkt4 h l ++ more) = S := by
    unfold size4n
    rw [h0]
    omega
  have hlen : (pkt4 h l ++ more).length = all + more.length := by rw [List.length_append, pkt4_length h hk, hall]
  have hT : (pkt4 h l ++ more).take S = head4 h all := by
    rw [hp, List.append_assoc]
    exact List.take_left' (by rw [head4_length h hk, hS])
  have h12 : ((pkt4 h l ++ more).drop 12).take 4 = h.src := by
    have e : pkt4 h l ++ more = (hdA h all ++ toBe 2 (sumC h all)) ++ (h.src ++ (h.dst ++ h.opt ++ l ++ more)) := by rw [hp, head4, bk4]; simp
    rw [e, List.drop_left' (by rw [List.length_append, hdA_length, toBe_length]), List.take_left' hk.src]
  have h16 : ((pkt4 h l ++ more).drop 16).take 4 = h.dst := by
    have e : pkt4 h l ++ more = (hdA h all ++ toBe 2 (sumC h all) ++ h.src) ++ (h.dst ++ (h.opt ++ l ++ more)) := by rw [hp, head4, bk4]; simp
    rw [e, List.drop_left' (by simp [hdA_length, toBe_length, hk.src]), List.take_left' hk.dst]
  have h20 : ((pkt4 h l ++ more).take S).drop 20 = h.opt := by
    rw [hT]
    have e : head4 h all = (hdA h all ++ toBe 2 (sumC h all) ++ h.src ++ h.dst) ++ h.opt := by rw [head4, bk4]; simp
    rw [e]
    exact List.drop_left' (by simp [hdA_length, toBe_length, hk.src, hk.dst])
  have hflag : flag4 h = h.off + (if h.keep then 16384 else 0) + (if h.more then 8192 else 0) := rfl
  unfold par4
  rw [if_neg (by omega), h0, if_neg (by omega), hsz, hL, if_neg (by omega), hT, if_neg (by rw [raw_head4]; omega), h1, h8, h9, hI, hF, h12, h16]
  rw [show (head4 h all).drop 20 = h.opt by rw [← hT]; exact h20, ub_nat _ t0 t1, ub_nat _ l0 l1, ub_nat _ p0 p1, ← hall]
  obtain ⟨tos, len, id, keep, more', off, ttl, pro, src, dst, opt⟩ := h
  simp only at hflag d0 d1 hbad g2 ⊢
  have e1 : ((id.toNat : Nat) : Int) = id := by omega
  have e2 : decide ((flag4 ⟨tos, len, id, keep, more', off, ttl, pro, src, dst, opt⟩).toNat / 16384 % 2 = 1) = keep := by
    cases keep <;> cases more' <;> simp at hflag ⊢ <;> omega
  have e3 : decide ((flag4 ⟨tos, len, id, keep, more', off, ttl, pro, src, dst, opt⟩).toNat / 8192 % 2 = 1) = more' := by
    cases keep <;> cases more' <;> simp at hflag ⊢ <;> omega
  have e5 : (((flag4 ⟨tos, len, id, keep, more', off, ttl, pro, src, dst, opt⟩).toNat % 8192 : Nat) : Int) = off := by
    cases keep <;> cases more' <;> simp at hflag ⊢ <;> omega
  rw [e1, e2, e3, e5]
theorem body4_pkt (h : H4) (hf : h.fit) (hx : ¬ h.bad) (l more : List UInt8) (hl : 20 + h.opt.length + l.length ≤ 65535) : body4 (pkt4 h l ++ more) = l := by
  unfold body4
  rw [par4_pkt h hf hx l more hl, if_pos rfl]
  simp only [Int.toNat_natCast]
  rw [List.take_left' (pkt4_length h hf.ok l)]
  unfold pkt4
  exact List.drop_left' (head4_length h hf.ok _)
theorem put4_yes (h : H4) (hx : ¬ h.bad) (l : List UInt8) (hl : 20 + h.opt.length + l.length ≤ 65535) : put4 h l = (pkt4 h l, 0) := by
  unfold put4
  rw [if_neg hx, if_neg (by omega)]
/-- with another time to live -/
def H4.at_ttl (h : H4) (t : Int) : H4 := { h with ttl := t }
theorem H4.at_fit (h : H4) (hf : h.fit) (t : Int) (h0 : 0 ≤ t) (h1 : t ≤ 255) : (h.at_ttl t).fit := ⟨⟨hf.ok.src, hf.ok.dst⟩, hf.tos, hf.len, hf.id, hf.off, ⟨h0, h1⟩, hf.pro, hf.opt⟩
theorem H4.at_bad (h : H4) (hx : ¬ h.bad) (t : Int) : ¬ (h.at_ttl t).bad := hx
theorem ttl4_pkt (h : H4) (hf : h.fit) (hx : ¬ h.bad) (l more : List UInt8) (hl : 20 + h.opt.length + l.length ≤ 65535) (t : Int) (h0 : 0 ≤ t) (h1 : t ≤ 255) :
    ttl4 (pkt4 h l ++ more) t = pkt4 (h.at_ttl t) l ++ more := by
  unfold ttl4
  rw [par4_pkt h hf hx l more hl, if_pos rfl]
  obtain ⟨all, hall⟩ : ∃ all, 20 + h.opt.length + l.length = all := ⟨_, rfl⟩
  have hp : pkt4 h l = head4 h all ++ l := by unfold pkt4; rw [hall]
  have hp2 : pkt4 (h.at_ttl t) l = head4 (h.at_ttl t) all ++ l := by unfold pkt4; rw [show (h.at_ttl t).opt = h.opt from rfl, hall]
  have hf2 := h.at_fit hf t h0 h1
  have hx2 := h.at_bad hx t
  have heq := hdA_eq h hf hx all
  have heq2 := hdA_eq (h.at_ttl t) hf2 hx2 all
  obtain ⟨l0, l1⟩ := hf.ttl
  obtain ⟨p0, p1⟩ := hf.pro
  obtain ⟨_, _, g4, g5⟩ := good4 h hf hx all (by omega)
  obtain ⟨q1, q2, q4, q5⟩ := good4 (h.at_ttl t) hf2 hx2 all (by omega)
  obtain ⟨F, hF⟩ : ∃ F, F = [ub (64 + ((20 + h.opt.length : Nat) : Int) / 4), ub h.tos] ++ toBe 2 all ++ toBe 2 h.id.toNat ++ toBe 2 (flag4 h).toNat := ⟨_, rfl⟩
  have hF8 : F.length = 8 := by rw [hF]; simp [toBe_length]
  have hA1 : hdA h all = F ++ [ub h.ttl, ub h.pro] := by rw [heq, hF]
  have hA2 : hdA (h.at_ttl t) all = F ++ [ub t, ub h.pro] := by rw [heq2, hF]; rfl
  obtain ⟨Z, hZ⟩ : ∃ Z, Z = bk4 h ++ l ++ more := ⟨_, rfl⟩
  have hP : pkt4 h l ++ more = F ++ (ub h.ttl :: ub h.pro :: (toBe 2 (sumC h all) ++ Z)) := by rw [hp, head4, hA1, hZ]; simp
  have hTA : ttlA (pkt4 h l ++ more) t = (F ++ [ub t, ub h.pro]) ++ (toBe 2 (sumC h all) ++ Z) := by
    unfold ttlA
    rw [hP, List.take_left' hF8, show (9 : Nat) = 8 + 1 from rfl, ← List.drop_drop, List.drop_left' hF8]
    simp
  have hFl : (F ++ [ub t, ub h.pro]).length = 10 := by rw [List.length_append, hF8]; rfl
  have n10 : numF (pkt4 h l ++ more) 10 2 = sumC h all := by
    rw [hP, show F ++ (ub h.ttl :: ub h.pro :: (toBe 2 (sumC h all) ++ Z)) = (F ++ [ub h.ttl, ub h.pro]) ++ toBe 2 (sumC h all) ++ Z by simp]
    rw [numF_mid _ _ _ 10 2 (by rw [List.length_append, hF8]; rfl) (toBe_length _ _), be_toBe2 _ (sumC_le h all)]
  have n8 : numF (pkt4 h l ++ more) 8 2 = (word4 h).toNat := by
    rw [hP, show F ++ (ub h.ttl :: ub h.pro :: (toBe 2 (sumC h all) ++ Z)) = F ++ [ub h.ttl, ub h.pro] ++ (toBe 2 (sumC h all) ++ Z) by simp, ← two_ub _ _ l0 l1 p0 p1]
    rw [numF_mid _ _ _ 8 2 hF8 (toBe_length _ _), show h.ttl * 256 + h.pro = word4 h from rfl, be_toBe2 _ (by omega)]
  have n8' : numF (ttlA (pkt4 h l ++ more) t) 8 2 = (word4 (h.at_ttl t)).toNat := by
    rw [hTA, ← two_ub _ _ h0 h1 p0 p1]
    rw [numF_mid _ _ _ 8 2 hF8 (toBe_length _ _), show t * 256 + h.pro = word4 (h.at_ttl t) from rfl, be_toBe2 _ (by omega)]
  have hC : ttlC (pkt4 h l ++ more) t = sumC (h.at_ttl t) all := by
    unfold ttlC turnN
    rw [n10, n8, n8']
    unfold sumC rawN
    have s1 := sum_hdA h hf hx all (by omega) (bk4 h)
    have s2 := sum_hdA (h.at_ttl t) hf2 hx2 all (by omega) (bk4 (h.at_ttl t))
    have b1 : bk4 (h.at_ttl t) = bk4 h := rfl
    have b2 : word0 (h.at_ttl t) = word0 h := rfl
    have b3 : flag4 (h.at_ttl t) = flag4 h := rfl
    have b5 : (h.at_ttl t).id = h.id := rfl
    rw [b1, b2, b3, b5] at s2
    rw [b1]
    exact sum_anew _ _ (word4 h).toNat (word4 (h.at_ttl t)).toNat (by omega) (by omega) (by omega) (by omega) (by omega)
  rw [hC, hTA, List.take_left' hFl, show (12 : Nat) = 10 + 2 from rfl, ← List.drop_drop, List.drop_left' hFl, List.drop_left' (toBe_length _ _), hp2, head4, hA2, hZ]
  simp only [List.append_assoc]
  rfl

theorem xor_bit (u b : Nat) (hu : u < 256) (hb : b < 8) : ((u ^^^ 2 ^ b) = u + 2 ^ b ∨ (u ^^^ 2 ^ b) + 2 ^ b = u) ∧ (u ^^^ 2 ^ b) < 256 := by
  have key : ∀ (u : Fin 256) (b : Fin 8), ((u.val ^^^ 2 ^ b.val) = u.val + 2 ^ b.val ∨ (u.val ^^^ 2 ^ b.val) + 2 ^ b.val = u.val) ∧ (u.val ^^^ 2 ^ b.val) < 256 := by decide +kernel
  exact key ⟨u, hu⟩ ⟨b, hb⟩
theorem pow_le7 (b : Nat) (h : b < 8) : 1 ≤ 2 ^ b ∧ 2 ^ b ≤ 128 := by
  have : 2 ^ b ≤ 2 ^ 7 := Nat.pow_le_pow_right (by omega) (by omega)
  exact ⟨Nat.one_le_two_pow, by omega⟩
theorem raw_turned (l : List UInt8) (j : Nat) (u : UInt8) (b : Nat) (hb : b < 8) (hu : l[j]? = some u) (hr : rawN l = 65535) : rawN (l.set j (UInt8.ofNat (u.toNat ^^^ 2 ^ b))) ≠ 65535 := by
  obtain ⟨hx, hlt⟩ := xor_bit u.toNat b u.toNat_lt hb
  obtain ⟨p1, p2⟩ := pow_le7 b hb
  have hs := sumB_set false l j (UInt8.ofNat (u.toNat ^^^ 2 ^ b)) u hu
  rw [UInt8.toNat_ofNat', Nat.mod_eq_of_lt (show u.toNat ^^^ 2 ^ b < 2 ^ 8 by omega)] at hs
  unfold rawN at hr ⊢
  generalize sumB false l = s at *
  generalize sumB false (l.set j (UInt8.ofNat (u.toNat ^^^ 2 ^ b))) = s' at *
  generalize u.toNat ^^^ 2 ^ b = v at *
  generalize 2 ^ b = p at *
  generalize u.toNat = x at *
  intro hr'
  unfold foldN at hr hr'
  split at hr
  · omega
  split at hr'
  · omega
  split at hs <;> omega

/-- a packet of which one bit of the header is another one -/
theorem par4_turned (h : H4) (hf : h.fit) (hx : ¬ h.bad) (l : List UInt8) (hl : 20 + h.opt.length + l.length ≤ 65535) (k : Nat) (hk4 : 4 ≤ k) (hk : k < 8 * (20 + h.opt.length)) (u : UInt8) (hu : (pkt4 h l)[k / 8]? = some u) (e : Int)
    (he : e = (par4 ((pkt4 h l).set (k / 8) (UInt8.ofNat (u.toNat ^^^ 2 ^ (k % 8))))).2) : e = 14 ∨ (k / 8 = 0 ∧ e ≠ 0) ∨ ((k / 8 = 2 ∨ k / 8 = 3) ∧ e = 13) := by
  obtain ⟨P, hP⟩ : ∃ P, P = pkt4 h l := ⟨_, rfl⟩
  obtain ⟨v, hv⟩ : ∃ v, v = UInt8.ofNat (u.toNat ^^^ 2 ^ (k % 8)) := ⟨_, rfl⟩
  obtain ⟨S, hS⟩ : ∃ S, 20 + h.opt.length = S := ⟨_, rfl⟩
  have hpar := par4_pkt h hf hx l [] hl
  rw [List.append_nil, ← hP] at hpar
  rw [← hP] at hu he
  rw [← hv] at he
  have hPl : P.length = 20 + h.opt.length + l.length := by rw [hP, pkt4_length h hf.ok]
  have hbad := hx
  unfold H4.bad at hbad
  have hT : P.take S = head4 h (20 + h.opt.length + l.length) := by
    rw [hP, pkt4]
    exact List.take_left' (by rw [head4_length h hf.ok, hS])
  have hv0 : (P.getD 0 0).toNat / 16 = 4 ∧ size4n P = S := by
    have hz : (par4 P).2 = 0 := by rw [hpar]
    have ho : 20 + (par4 P).1.opt.length = S := by rw [hpar]; exact hS
    unfold par4 at hz ho
    split at hz
    · cases hz
    split at hz
    · cases hz
    split at hz
    · cases hz
    split at hz
    · cases hz
    rename_i q1 q2 q3 q4
    rw [if_neg q1, if_neg q2, if_neg q3, if_neg q4] at ho
    simp only [List.length_drop, List.length_take] at ho
    omega
  obtain ⟨w0, ws⟩ := hv0
  have hset : ∀ i, i ≠ k / 8 → (P.set (k / 8) v).getD i 0 = P.getD i 0 := by
    intro i hi
    rw [List.getD_eq_getElem?_getD, List.getD_eq_getElem?_getD, List.getElem?_set_ne (fun e => hi e.symm)]
  have hlen2 : (P.set (k / 8) v).length = P.length := List.length_set
  by_cases h0 : k / 8 = 0
  · refine .inr (.inl ⟨h0, ?_⟩)
    rw [h0] at hu he
    have hg : (P.set 0 v).getD 0 0 = v := by
      rw [List.getD_eq_getElem?_getD, List.getElem?_set_self (by omega)]
      rfl
    have hu0 : P.getD 0 0 = u := by rw [List.getD_eq_getElem?_getD, hu]; rfl
    rw [hu0] at w0
    obtain ⟨x1, x2⟩ := xor_bit u.toNat (k % 8) u.toNat_lt (by omega)
    have hvn : v.toNat = u.toNat ^^^ 2 ^ (k % 8) := by rw [hv, UInt8.toNat_ofNat', Nat.mod_eq_of_lt (by omega)]
    have hp4 : 2 ^ (k % 8) % 16 = 0 ∧ 16 ≤ 2 ^ (k % 8) := by
      have : k % 8 = 4 ∨ k % 8 = 5 ∨ k % 8 = 6 ∨ k % 8 = 7 := by omega
      rcases this with q | q | q | q <;> rw [q] <;> decide
    have hne : v.toNat / 16 ≠ 4 := by omega
    have : par4 (P.set 0 v) = (H4.zero, 12) := by
      unfold par4
      rw [if_neg (by rw [List.length_set]; omega), hg, if_pos hne]
    rw [he, this]
    decide
  · have g0 := hset 0 (fun e => h0 e.symm)
    have hsz : size4n (P.set (k / 8) v) = S := by unfold size4n at ws ⊢; rw [g0]; exact ws
    have hraw : rawN ((P.set (k / 8) v).take S) ≠ 65535 := by
      have hkS : k / 8 < S := by omega
      rw [List.take_set, hT]
      rw [hv]
      refine raw_turned _ _ u (k % 8) (by omega) ?_ (raw_head4 _ _)
      rw [← hT, List.getElem?_take, if_pos hkS]
      exact hu
    by_cases h23 : k / 8 = 2 ∨ k / 8 = 3
    · by_cases hc : S < 20 ∨ numF (P.set (k / 8) v) 2 2 < S ∨ (P.set (k / 8) v).length < numF (P.set (k / 8) v) 2 2
      · refine .inr (.inr ⟨h23, ?_⟩)
        rw [he]
        unfold par4
        rw [if_neg (by omega), g0, if_neg (by omega), hsz, if_pos hc]
      · left
        rw [he]
        unfold par4
        rw [if_neg (by omega), g0, if_neg (by omega), hsz, if_neg hc, if_pos hraw]
    · left
      have hL : numF (P.set (k / 8) v) 2 2 = 20 + h.opt.length + l.length := by
        have hLP : numF P 2 2 = 20 + h.opt.length + l.length := by
          obtain ⟨L, S', e1, e2, _, _, _, _, e7⟩ := par4_fit P _ hpar
          simp only at e1
          omega
        have : ((P.set (k / 8) v).drop 2).take 2 = (P.drop 2).take 2 := by
          apply List.ext_getElem?
          intro i
          rw [List.getElem?_take, List.getElem?_take]
          split
          · rw [List.getElem?_drop, List.getElem?_drop, List.getElem?_set_ne (by omega)]
          · rfl
        unfold numF at hLP ⊢
        rw [this]
        exact hLP
      rw [he]
      unfold par4
      rw [if_neg (by omega), g0, if_neg (by omega), hsz, hL, if_neg (by omega), if_pos hraw]
end Go.Proofs.YtckbleiikldloaaDoor

/- Plain laws of extensions (layer 22): what is put is told; a bit turned; objects of other kinds. No condition. -/
namespace Go.Proofs.YtckbleiikldloaaDoor
open Go.RowKit
set_option linter.unusedVariables false
set_option maxRecDepth 20000
set_option linter.unusedSimpArgs false

theorem unp_packedX (x : Ent) (hf : x.fit) (hg : x.good) (r : List UInt8) : unpE (packL x ++ r) = x := by
  have hl : (packL x).length = 4 := packL_four hg
  have hp : packL x = toBe 4 x.num.toNat := if_pos hg
  obtain ⟨l, c, b, t⟩ := x
  obtain ⟨g0, g1, g2⟩ := hg
  have c0 := hf.c0
  have t0 := hf.t0
  have t1 := hf.t1
  simp only at g0 g1 g2 c0 t0 t1
  obtain ⟨N, hN⟩ : ∃ N : Nat, (Ent.mk l c b t).num = (N : Int) := ⟨(Ent.mk l c b t).num.toNat, by unfold Ent.num; simp only; split <;> omega⟩
  have hb : be ((packL ⟨l, c, b, t⟩ ++ r).take 4) = N := by
    rw [List.take_left' hl, hp, hN, be_toBe, Int.toNat_natCast]
    have : (N : Int) < 4294967296 := by rw [← hN]; unfold Ent.num; simp only; split <;> omega
    omega
  unfold unpE
  rw [if_neg (by rw [List.length_append]; omega), hb]
  unfold Ent.num at hN
  simp only at hN
  cases b
  · simp only [Bool.false_eq_true, if_false] at hN
    congr 1
    · omega
    · omega
    · simp; omega
    · omega
  · simp only [if_true] at hN
    congr 1
    · omega
    · omega
    · simp; omega
    · omega
theorem xor_bitX (u b : Nat) (hu : u < 256) (hb : b < 8) : ((u ^^^ 2 ^ b) = u + 2 ^ b ∨ (u ^^^ 2 ^ b) + 2 ^ b = u) ∧ (u ^^^ 2 ^ b) < 256 := by
  have key : ∀ (u : Fin 256) (b : Fin 8), ((u.val ^^^ 2 ^ b.val) = u.val + 2 ^ b.val ∨ (u.val ^^^ 2 ^ b.val) + 2 ^ b.val = u.val) ∧ (u.val ^^^ 2 ^ b.val) < 256 := by decide +kernel
  exact key ⟨u, hu⟩ ⟨b, hb⟩
theorem pow_le7X (b : Nat) (h : b < 8) : 1 ≤ 2 ^ b ∧ 2 ^ b ≤ 128 := by
  have : 2 ^ b ≤ 2 ^ 7 := Nat.pow_le_pow_right (by omega) (by omega)
  exact ⟨Nat.one_le_two_pow, by omega⟩
theorem raw_turnedX (l : List UInt8) (j : Nat) (u : UInt8) (b : Nat) (hb : b < 8) (hu : l[j]? = some u) (hr : rawN l = 65535) : rawN (l.set j (UInt8.ofNat (u.toNat ^^^ 2 ^ b))) ≠ 65535 := by
  obtain ⟨hx, hlt⟩ := xor_bitX u.toNat b u.toNat_lt hb
  obtain ⟨p1, p2⟩ := pow_le7X b hb
  have hs := sumB_set false l j (UInt8.ofNat (u.toNat ^^^ 2 ^ b)) u hu
  rw [UInt8.toNat_ofNat', Nat.mod_eq_of_lt (show u.toNat ^^^ 2 ^ b < 2 ^ 8 by omega)] at hs
  unfold rawN at hr ⊢
  generalize sumB false l = s at *
  generalize sumB false (l.set j (UInt8.ofNat (u.toNat ^^^ 2 ^ b))) = s' at *
  generalize u.toNat ^^^ 2 ^ b = v at *
  generalize 2 ^ b = p at *
  generalize u.toNat = x at *
  intro hr'
  unfold foldN at hr hr'
  split at hr
  · omega
  split at hr'
  · omega
  split at hs <;> omega
theorem toBe2_eq (c : Nat) (h : c ≤ 65535) : toBe 2 c = [UInt8.ofNat (c / 256), UInt8.ofNat (c % 256)] := by
  have h1 := toBe_cons 1 c
  have h2 := toBe_cons 0 c
  rw [h1, h2]
  simp only [Nat.pow_one, Nat.pow_zero, Nat.div_one, toBe]
  rw [Nat.mod_eq_of_lt (show c / 256 < 256 by omega)]
theorem raw_hd22 (s : List UInt8) : rawN (hd22 s) = 65535 := by
  have h := sum_right ([32, 0, 0, 0] ++ s) 1 (by simp) (65535 - rawN ([32, 0, 0, 0] ++ s)) rfl
  unfold hd22
  rw [toBe2_eq _ (by omega)]
  exact h

structure Ob.fine (x : Ob) : Prop where
  good : x.good = true
  cls : 0 ≤ x.cls ∧ x.cls ≤ 255
  kind : 0 ≤ x.kind ∧ x.kind ≤ 255
theorem Ob.good_len {x : Ob} (h : x.good = true) : x.body.length ≤ 1000 ∧ x.body.length % 4 = 0 := by
  unfold Ob.good at h
  simpa using h
theorem goG_obs : ∀ (l : List Ob) (f : Nat) (acc : List Ob), l.length ≤ f → (∀ x ∈ l, x.fine) → goG f acc (obsB l) = (acc ++ l, 0) := by
  intro l
  induction l with
  | nil =>
    intro f acc _ _
    rw [List.append_nil]
    cases f with
    | zero => rfl
    | succ f => unfold goG; rw [if_pos (show (obsB []).length = 0 from rfl)]
  | cons x l ih =>
    intro f acc hf hx
    obtain ⟨f, rfl⟩ : ∃ q, f = q + 1 := ⟨f - 1, by simp at hf; omega⟩
    have hxf := hx x (by simp)
    obtain ⟨h1, h2⟩ := Ob.good_len hxf.good
    have he : obsB (x :: l) = obB x ++ obsB l := rfl
    have hbl := obB_length x
    have ho : obB x = toBe 2 (x.body.length + 4) ++ ([ub x.cls, ub x.kind] ++ x.body) := by unfold obB; rw [List.append_assoc]
    have ht : be ((obB x ++ obsB l).take 2) = x.body.length + 4 := by
      rw [ho, List.append_assoc, List.take_left' (toBe_length _ _), be_toBe]
      exact Nat.mod_eq_of_lt (by omega)
    have hbad : badG (obB x ++ obsB l) = false := by
      unfold badG
      rw [ht, List.length_append, hbl]
      simp
      omega
    have hob : obG (obB x ++ obsB l) = x := by
      unfold obG
      rw [ht, List.take_left' hbl, ho, toBe2_eq _ (by omega)]
      have e1 := ub_nat x.cls hxf.cls.1 hxf.cls.2
      have e2 := ub_nat x.kind hxf.kind.1 hxf.kind.2
      obtain ⟨c, k, b⟩ := x
      simp only [List.cons_append, List.nil_append, List.getD_cons_succ, List.getD_cons_zero, List.drop_succ_cons, List.drop_zero] at e1 e2 ⊢
      rw [e1, e2]
    rw [he]
    unfold goG
    rw [if_neg (by rw [List.length_append, hbl]; omega), if_neg (by rw [List.length_append, hbl]; omega), hbad, if_neg (by decide), hob, ht, List.drop_left' hbl, ih f (acc ++ [x]) (by simp at hf; omega) (fun y hy => hx y (by simp [hy]))]
    simp
theorem obsB_ge (l : List Ob) : l.length ≤ (obsB l).length := by
  induction l with
  | nil => simp
  | cons x l ih =>
    have he : obsB (x :: l) = obB x ++ obsB l := rfl
    rw [he, List.length_append, obB_length, List.length_cons]
    omega
theorem hd22_cons (s : List UInt8) : ∃ a b, hd22 s = 32 :: 0 :: a :: b :: s := by
  unfold hd22
  rw [toBe2_eq _ (by omega)]
  exact ⟨_, _, rfl⟩
theorem getG_hd (l : List Ob) (h : ∀ x ∈ l, x.fine) : getG (hd22 (obsB l)) = (l, 0) := by
  have hr := raw_hd22 (obsB l)
  obtain ⟨a, b, he⟩ := hd22_cons (obsB l)
  rw [he] at hr ⊢
  unfold getG
  rw [if_neg (by simp), if_neg (by simp), if_neg (by rw [hr]; simp)]
  simp only [List.length_cons, List.drop_succ_cons, List.drop_zero]
  have := goG_obs l ((obsB l).length) [] (obsB_ge l) h
  simpa using this
theorem getG_turned (z : List UInt8) (h4 : 4 ≤ z.length) (hr : rawN z = 65535) (j : Nat) (u : UInt8) (b : Nat) (hb : b < 8) (hu : z[j]? = some u) :
    (getG (z.set j (UInt8.ofNat (u.toNat ^^^ 2 ^ b)))).2 = 12 ∨ (getG (z.set j (UInt8.ofNat (u.toNat ^^^ 2 ^ b)))).2 = 14 := by
  have hne := raw_turnedX z j u b hb hu hr
  have hl : (z.set j (UInt8.ofNat (u.toNat ^^^ 2 ^ b))).length = z.length := by simp
  generalize z.set j (UInt8.ofNat (u.toNat ^^^ 2 ^ b)) = z' at hne hl ⊢
  unfold getG
  rw [if_neg (by omega)]
  by_cases hv : (z'.getD 0 0).toNat / 16 ≠ 2
  · rw [if_pos hv]
    exact .inl rfl
  · rw [if_neg hv, if_pos hne]
    exact .inr rfl
theorem entAt_cons (p T : List UInt8) (hp : p.length = 4) (k : Nat) : entAt (p ++ T) (k + 1) = entAt T k := by
  unfold entAt
  rw [show 4 * (k + 1) = 4 + 4 * k by omega, ← List.drop_drop, List.drop_left' hp]
theorem outs_packs (l : List Ent) (hf : ∀ x ∈ l, x.fit) (hg : ∀ x ∈ l, x.good) : outs (l.flatMap packL) l.length = l := by
  induction l with
  | nil => rfl
  | cons x l ih =>
    have hp := packL_four (hg x (by simp))
    have ih' := ih (fun y hy => hf y (by simp [hy])) (fun y hy => hg y (by simp [hy]))
    unfold outs at ih' ⊢
    rw [List.length_cons, List.range_succ_eq_map, List.map_cons, List.map_map, List.flatMap_cons]
    rw [show entAt (packL x ++ l.flatMap packL) 0 = x by unfold entAt; rw [Nat.mul_zero, List.drop_zero]; exact unp_packedX x (hf x (by simp)) (hg x (by simp)) _]
    congr 1
    exact Eq.trans (List.map_congr_left fun k _ => entAt_cons _ _ hp k) ih'
theorem told_of (L : List Ob) (hL : ∀ x ∈ L, x.fine) (l : List Ent) (hf : ∀ x ∈ l, x.fit) (hg : ∀ x ∈ l, x.good) (h16 : l.length ≤ 16) (hfd : L.find? Ob.lab = some ⟨1, 1, l.flatMap packL⟩) : toldG (hd22 (obsB L)) = (l, 0) := by
  unfold toldG
  rw [getG_hd L hL]
  simp only [hfd, packs_len l hg]
  rw [if_neg (by decide), if_neg (by omega), show 4 * l.length / 4 = l.length by omega, outs_packs l hf hg]
end Go.Proofs.YtckbleiikldloaaDoor

/- What icmp4.Message.may and icmp4.body (layer 23) compute. No condition but sizes. -/
namespace Go.Proofs.YtckbleiikldloaaDoor
open Go.RowKit
set_option linter.unusedVariables false
set_option maxRecDepth 20000
set_option linter.unusedSimpArgs false

/-- a message of the program's own -/
structure Mp where
  kind : Int
  mtu : Int
  P : Option Addr
  pn : Nat
  pc : Nat
  beg : List UInt8
  A : Option Addr
  n : Nat
  c : Nat
  st : List Ent
def Mp.cells (m : Mp) : List Value := [.int .i64 m.kind, .int .i64 m.mtu, .slice m.P m.pn m.pc, .slice m.A m.n m.c]
def Mp.m (m : Mp) : Mm := ⟨m.kind, m.mtu, m.beg, m.A, m.n, m.c, m.st⟩
structure Mp.ok (w : World) (m : Mp) : Prop where
  kind : -9223372036854775808 ≤ m.kind ∧ m.kind ≤ 9223372036854775807
  mtu : -9223372036854775808 ≤ m.mtu ∧ m.mtu ≤ 9223372036854775807
  brow : Row w w.heap.size 1 m.P m.pn (bv m.beg)
  ble : m.pn ≤ m.pc
  bcap : m.pc ≤ maxLen
  row : Row w w.heap.size 4 m.A m.n (evs m.st)
  le : m.n ≤ m.c
  cap : m.c ≤ maxLen
  fit : ∀ x ∈ m.st, x.fit
theorem Mp.ok.on {w w' : World} {m : Mp} (h : m.ok w) (hb : Below w.heap.size w w') : m.ok w' := ⟨h.kind, h.mtu, (h.brow.below hb).more hb.size, h.ble, h.bcap, (h.row.below hb).more hb.size, h.le, h.cap, h.fit⟩
theorem Mp.ok.blen {w : World} {m : Mp} (h : m.ok w) : m.beg.length = m.pn := by have := h.brow.1; rw [bv_length] at this; omega
theorem Mp.ok.slen {w : World} {m : Mp} (h : m.ok w) : m.st.length = m.n := ent_len h.row
theorem oneMp (x : Mp) : ∀ v ∈ x.cells, v.oneCell' = true := by
  intro v hv
  simp [Mp.cells] at hv
  rcases hv with rfl | rfl | rfl | rfl <;> rfl
theorem sizeMp (x : Mp) : (Tryd.prog.info? 25).map (·.size) = some x.cells.length := by show _ = some 4; kernel_rfl
theorem zeroMp (w : World) : (zeroValue 25).run Tryd.prog w = .ok (.agg (Mp.cells ⟨0, 0, none, 0, 0, [], none, 0, 0, []⟩).toArray) w := by kernel_rfl

def Mp.good4 (m : Mp) : Bool := decide (¬ m.m.bad)
set_option maxHeartbeats 1000000 in
theorem may4_any (m : Mp) (w : World) (hm : m.ok w) : Calls Tryd.prog 18 #[.agg m.cells.toArray] w fun e w' => e = .returned (.bool m.good4) ∧ Below w.heap.size w w' := by
  obtain ⟨kd, mt, P, pn, pc, beg, A, n, c, st⟩ := m
  have hk := hm.kind
  have ht := hm.mtu
  dsimp only at hk ht
  obtain ⟨hk0, hk1⟩ := hk
  obtain ⟨ht0, ht1⟩ := ht
  show Calls Tryd.prog 18 #[.agg #[.int .i64 kd, .int .i64 mt, .slice P pn pc, .slice A n c]] w fun e w' => e = .returned (.bool (Mp.good4 ⟨kd, mt, P, pn, pc, beg, A, n, c, st⟩)) ∧ Below w.heap.size w w'
  have fin : ∀ b : Bool, (b = true ↔ ¬ Mm.bad ⟨kd, mt, beg, A, n, c, st⟩) → Mp.good4 ⟨kd, mt, P, pn, pc, beg, A, n, c, st⟩ = b := fun b h => by
    unfold Mp.good4 Mp.m
    by_cases hb : b = true
    · rw [hb, decide_eq_true (h.1 hb)]
    · rw [Bool.not_eq_true] at hb
      rw [hb, decide_eq_false (fun h2 => by rw [h.2 h2] at hb; cases hb)]
  clear hm
  by_cases h1 : 0 ≤ kd
  · have e1 : decide ((0 : Int) ≤ kd) = true := by simpa using h1
    by_cases h2 : kd ≤ 2
    · have e2 : decide (kd ≤ (2 : Int)) = true := by simpa using h2
      by_cases h3 : 0 ≤ mt
      · have e3 : decide ((0 : Int) ≤ mt) = true := by simpa using h3
        by_cases h4 : mt ≤ 65535
        · have e4 : decide (mt ≤ (65535 : Int)) = true := by simpa using h4
          by_cases h5 : kd = 1
          · have e5 : (kd == 1) = true := by simpa using h5
            have HF := Lib.hid (fin true (by unfold Mm.bad; simp; omega))
            clear fin h5
            go_enter Tryd.func18, Tryd.ntmps18
            go_wp2
            go_ret
            exact ⟨by rw [HF.out]; rfl, alloc_below _ _⟩
          · have e5 : (kd == 1) = false := by simpa using h5
            by_cases h6 : mt = 0
            · have e6 : (mt == 0) = true := by simpa using h6
              have HF := Lib.hid (fin true (by unfold Mm.bad; simp; omega))
              clear fin h5 h6
              go_enter Tryd.func18, Tryd.ntmps18
              go_wp2
              go_ret
              exact ⟨by rw [HF.out]; rfl, alloc_below _ _⟩
            · have e6 : (mt == 0) = false := by simpa using h6
              have HF := Lib.hid (fin false (by unfold Mm.bad; simp; omega))
              clear fin h5 h6
              go_enter Tryd.func18, Tryd.ntmps18
              go_wp2
              go_ret
              exact ⟨by rw [HF.out]; rfl, alloc_below _ _⟩
        · have e4 : decide (mt ≤ (65535 : Int)) = false := by simpa using h4
          have HF := Lib.hid (fin false (by unfold Mm.bad; simp; omega))
          clear fin h4
          go_enter Tryd.func18, Tryd.ntmps18
          go_wp2
          go_ret
          exact ⟨by rw [HF.out]; rfl, alloc_below _ _⟩
      · have e3 : decide ((0 : Int) ≤ mt) = false := by simpa using h3
        have HF := Lib.hid (fin false (by unfold Mm.bad; simp; omega))
        clear fin h3
        go_enter Tryd.func18, Tryd.ntmps18
        go_wp2
        go_ret
        exact ⟨by rw [HF.out]; rfl, alloc_below _ _⟩
    · have e2 : decide (kd ≤ (2 : Int)) = false := by simpa using h2
      have HF := Lib.hid (fin false (by unfold Mm.bad; simp; omega))
      clear fin h2
      go_enter Tryd.func18, Tryd.ntmps18
      go_wp2
      go_ret
      exact ⟨by rw [HF.out]; rfl, alloc_below _ _⟩
  · have e1 : decide ((0 : Int) ≤ kd) = false := by simpa using h1
    have HF := Lib.hid (fin false (by unfold Mm.bad; simp; omega))
    clear fin h1
    go_enter Tryd.func18, Tryd.ntmps18
    go_wp2
    go_ret
    exact ⟨by rw [HF.out]; rfl, alloc_below _ _⟩

def bodyF (b : List UInt8) : List UInt8 := b.take 2 ++ toBe 2 (65535 - rawN b) ++ b.drop 4
set_option maxHeartbeats 1000000 in
theorem body23p_any (R : Option Addr) (k c : Nat) (rows : List Bs) (w : World) (h : Row w w.heap.size 1 R k (rows.map Bs.v)) (hr : ∀ r ∈ rows, r.ok w) (hk : k ≤ 1000)
    (B : List UInt8) (hB : flat rows = B) (N : Nat) (hN : B.length = N) (hN4 : 4 ≤ N) (hNm : N ≤ 65000) :
    Calls Tryd.prog 21 #[.slice R k c] w fun e w' => ∃ A' c', e = .returned (.slice A' N c') ∧ Own w' w.heap.size 5 1 A' N c' (bv (bodyF B)) ∧ Below w.heap.size w w' := by
  have HR := Lib.hid h
  have HRS := Lib.hid hr
  have HBB := Lib.hid hB
  have HN := Lib.hid hN
  obtain ⟨Cs, hCs⟩ : ∃ Cs, 65535 - rawN B = Cs := ⟨_, rfl⟩
  have hCsm : Cs ≤ 65535 := by omega
  have HCS := Lib.hid hCs
  have HW : Hid (bodyF B = B.take 2 ++ toBe 2 Cs ++ B.drop 4) := Lib.hid (by unfold bodyF; rw [hCs])
  clear h hr hB hN hCs
  go_enter Tryd.func21, Tryd.ntmps21
  go_wp2_with fail
  have hlb := lenV_bs rows HRS.out
  refine (concat_bytes R k c (rows.map Bs.sl) w (by rw [vs_bs]; exact HR.out) (fun r hx => by obtain ⟨x, hx2, rfl⟩ := List.mem_map.1 hx; exact (HRS.out x hx2).sl) (by omega) (by rw [hlb, HBB.out, HN.out]; omega)).mono ?_
  rintro e w3 ⟨A3, c3, rfl, hown, hb3⟩
  rw [flatV_bs, HBB.out, hlb, HBB.out, HN.out] at hown
  rw [hlb, HBB.out, HN.out]
  have HO3 := Lib.hid hown
  have HBW := Lib.hid hb3
  clear hown hb3 hlb
  go_wp2_with fail
  refine (of_any (some ⟨w3.heap.size, 0, none⟩) 1 1 [⟨A3, N, c3, B⟩] _ (by rw [World.size_alloc]; exact Row.new (n := 1) (sz := 1) w3 _ rfl) (oks1 ((HO3.out.below (alloc_below _ _)).ok)) (by omega) (by rw [flat_one, HN.out]; omega)).mono ?_
  rintro e w4 ⟨rfl, hb4⟩
  rw [flat_one, HCS.out]
  have hb34 := ballocd hb4
  have HO4 := Lib.hid (HO3.out.below hb34)
  replace HBW := Lib.hid (bthen HBW.out hb34)
  have hwr : IntKind.u64.wrap (Cs : Int) = (Cs : Int) := by rw [IntKind.wrap_u64]; omega
  clear hb4 hb34
  go_wp2_with fail
  refine (put_yes A3 N c3 B 2 2 (Cs : Int) _ HO4.out.row HO4.out.le HO4.out.cap (by omega) (by omega) (by omega) (by omega) (by omega) (by omega) (by show (Cs : Int) < 256 ^ 2; omega)).mono ?_
  rintro e w5 ⟨A5, c5, rfl, ho5, hb5⟩
  rw [show ((Cs : Nat) : Int).toNat = Cs from rfl] at ho5
  have HO5 := Lib.hid (show Own w5 _ 5 1 A5 N c5 (bv (B.take 2 ++ toBe 2 Cs ++ B.drop 4)) from ho5)
  have hle9 := HBW.out.size
  replace HBW := Lib.hid (bthen HBW.out hb5)
  clear ho5 hb5
  go_wp2_with fail
  go_ret
  exact ⟨A5, c5, rfl, by rw [HW.out]; exact HO5.out.mono hle9, HBW.out⟩
end Go.Proofs.YtckbleiikldloaaDoor


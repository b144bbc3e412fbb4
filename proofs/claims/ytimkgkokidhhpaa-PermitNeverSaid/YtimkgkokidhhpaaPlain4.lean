/- Plain laws of IPv4's packets: what is put is parsed; a time to live set; a bit turned. No condition. -/
import Derived.Test.YtimkgkokidhhpaaIp4e
namespace Go.Proofs.Ytimkgkokidhhpaa
open Go.RowKit
set_option linter.unusedVariables false
set_option maxRecDepth 20000
set_option linter.unusedSimpArgs false

theorem getD_mid (X Z : List UInt8) (u : UInt8) (i : Nat) (hX : X.length = i) : (X ++ u :: Z).getD i 0 = u := by
  rw [List.getD_eq_getElem?_getD, List.getElem?_append_right (by omega), hX, Nat.sub_self]
  rfl
theorem be_toBe2 (x : Nat) (h : x ≤ 65535) : be (toBe 2 x) = x := by rw [be_toBe]; exact Nat.mod_eq_of_lt (by omega)
theorem sum_toBe2 (x : Nat) (h : x ≤ 65535) : sumB false (toBe 2 x) = x := by
  rw [toBe2 x h]
  simp only [sumB, UInt8.toNat_ofNat']
  omega
theorem odd_toBe2 (b : Bool) (x : Nat) : oddB b (toBe 2 x) = b := by unfold oddB; simp [toBe_length]
theorem sum_twos (xs : List Int) (h : ∀ x ∈ xs, 0 ≤ x ∧ x ≤ 65535) (r : List UInt8) : sumB false (twos xs ++ r) = (xs.map Int.toNat).sum + sumB false r := by
  induction xs with
  | nil => simp [twos]
  | cons x xs ih =>
    have h1 : twos (x :: xs) = toBe 2 x.toNat ++ twos xs := rfl
    have hx := h x (by simp)
    rw [h1, List.append_assoc, sumB_append, odd_toBe2, ih (fun y hy => h y (by simp [hy])), sum_toBe2 _ (by omega)]
    simp only [List.map_cons, List.sum_cons]
    omega

/-- bounds of a header that may be put -/
theorem good4 (h : H4) (hf : h.fit) (hx : ¬ h.bad) (all : Nat) (hl : all ≤ 65535) : (0 ≤ word0 h ∧ word0 h ≤ 65535) ∧ (0 ≤ flag4 h ∧ flag4 h ≤ 65535) ∧ (0 ≤ word4 h ∧ word4 h ≤ 65535) ∧ 16384 ≤ word0 h := by
  obtain ⟨t0, t1⟩ := hf.tos
  obtain ⟨l0, l1⟩ := hf.ttl
  obtain ⟨p0, p1⟩ := hf.pro
  unfold H4.bad at hx
  refine ⟨?_, ?_, ?_, ?_⟩
  · unfold word0; omega
  · unfold flag4; split <;> split <;> omega
  · unfold word4; omega
  · unfold word0; omega
theorem good4_all (h : H4) (hf : h.fit) (hx : ¬ h.bad) (all : Nat) (hl : all ≤ 65535) : ∀ x ∈ [word0 h, (all : Int), h.id, flag4 h, word4 h], 0 ≤ x ∧ x ≤ 65535 := by
  obtain ⟨g1, g2, g3, _⟩ := good4 h hf hx all hl
  have g4 := hf.id
  intro x hx
  simp only [List.mem_cons, List.not_mem_nil, or_false] at hx
  rcases hx with rfl | rfl | rfl | rfl | rfl
  · exact g1
  · omega
  · exact g4
  · exact g2
  · exact g3
theorem sum_hdA (h : H4) (hf : h.fit) (hx : ¬ h.bad) (all : Nat) (hl : all ≤ 65535) (r : List UInt8) : sumB false (hdA h all ++ r) = (word0 h).toNat + all + h.id.toNat + (flag4 h).toNat + (word4 h).toNat + sumB false r := by
  unfold hdA
  rw [sum_twos _ (good4_all h hf hx all hl)]
  simp only [List.map_cons, List.map_nil, List.sum_cons, List.sum_nil, Int.toNat_natCast]
  omega
theorem sumC_le (h : H4) (all : Nat) : sumC h all ≤ 65535 := by unfold sumC; omega
theorem oddB_even (b : Bool) (l : List UInt8) (h : l.length % 2 = 0) : oddB b l = b := by unfold oddB; rw [if_pos h]
theorem raw_head4 (h : H4) (all : Nat) : rawN (head4 h all) = 65535 := by
  have e : sumB false (head4 h all) = sumB false (hdA h all ++ bk4 h) + sumC h all := by
    unfold head4
    rw [List.append_assoc, sumB_append, sumB_append, odd_toBe2, sumB_append, oddB_even _ _ (by rw [hdA_length]), sum_toBe2 _ (sumC_le h all)]
    omega
  unfold rawN
  rw [e]
  exact fold_right _

theorem par4_pkt (h : H4) (hf : h.fit) (hx : ¬ h.bad) (l more : List UInt8) (hl : 20 + h.opt.length + l.length ≤ 65535) :
    par4 (pkt4 h l ++ more) = ({ h with len := ((20 + h.opt.length + l.length : Nat) : Int) }, 0) := by
  obtain ⟨all, hall⟩ : ∃ all, 20 + h.opt.length + l.length = all := ⟨_, rfl⟩
  have hp : pkt4 h l = head4 h all ++ l := by unfold pkt4; rw [hall]
  have heq := hdA_eq h hf hx all
  have hbad := hx
  unfold H4.bad at hbad
  obtain ⟨S, hS⟩ : ∃ S, 20 + h.opt.length = S := ⟨_, rfl⟩
  rw [hS] at heq
  have hk := hf.ok
  obtain ⟨t0, t1⟩ := hf.tos
  obtain ⟨d0, d1⟩ := hf.id
  obtain ⟨l0, l1⟩ := hf.ttl
  obtain ⟨p0, p1⟩ := hf.pro
  obtain ⟨_, g2, _, _⟩ := good4 h hf hx all (by omega)
  have hfl := flag4
  obtain ⟨R, hR⟩ : ∃ R, R = toBe 2 (sumC h all) ++ bk4 h ++ l ++ more := ⟨_, rfl⟩
  have hP : pkt4 h l ++ more = hdA h all ++ R := by rw [hp, head4, hR]; simp
  have hub0 : ((ub (64 + (S : Int) / 4)).toNat : Int) = 64 + (S : Int) / 4 := ub_nat _ (by omega) (by omega)
  have h0 : (pkt4 h l ++ more).getD 0 0 = ub (64 + (S : Int) / 4) := by rw [hP, heq]; rfl
  have h1 : (pkt4 h l ++ more).getD 1 0 = ub h.tos := by rw [hP, heq]; rfl
  have h8 : (pkt4 h l ++ more).getD 8 0 = ub h.ttl := by
    rw [hP, heq, show [ub (64 + (S : Int) / 4), ub h.tos] ++ toBe 2 all ++ toBe 2 h.id.toNat ++ toBe 2 (flag4 h).toNat ++ [ub h.ttl, ub h.pro] ++ R = ([ub (64 + (S : Int) / 4), ub h.tos] ++ toBe 2 all ++ toBe 2 h.id.toNat ++ toBe 2 (flag4 h).toNat) ++ ub h.ttl :: (ub h.pro :: R) by simp]
    exact getD_mid _ _ _ 8 (by simp [toBe_length])
  have h9 : (pkt4 h l ++ more).getD 9 0 = ub h.pro := by
    rw [hP, heq, show [ub (64 + (S : Int) / 4), ub h.tos] ++ toBe 2 all ++ toBe 2 h.id.toNat ++ toBe 2 (flag4 h).toNat ++ [ub h.ttl, ub h.pro] ++ R = ([ub (64 + (S : Int) / 4), ub h.tos] ++ toBe 2 all ++ toBe 2 h.id.toNat ++ toBe 2 (flag4 h).toNat ++ [ub h.ttl]) ++ ub h.pro :: R by simp]
    exact getD_mid _ _ _ 9 (by simp [toBe_length])
  have hL : numF (pkt4 h l ++ more) 2 2 = all := by
    rw [hP, heq, show [ub (64 + (S : Int) / 4), ub h.tos] ++ toBe 2 all ++ toBe 2 h.id.toNat ++ toBe 2 (flag4 h).toNat ++ [ub h.ttl, ub h.pro] ++ R = [ub (64 + (S : Int) / 4), ub h.tos] ++ toBe 2 all ++ (toBe 2 h.id.toNat ++ toBe 2 (flag4 h).toNat ++ [ub h.ttl, ub h.pro] ++ R) by simp]
    rw [numF_mid _ _ _ 2 2 rfl (toBe_length _ _), be_toBe2 _ (by omega)]
  have hI : numF (pkt4 h l ++ more) 4 2 = h.id.toNat := by
    rw [hP, heq, show [ub (64 + (S : Int) / 4), ub h.tos] ++ toBe 2 all ++ toBe 2 h.id.toNat ++ toBe 2 (flag4 h).toNat ++ [ub h.ttl, ub h.pro] ++ R = ([ub (64 + (S : Int) / 4), ub h.tos] ++ toBe 2 all) ++ toBe 2 h.id.toNat ++ (toBe 2 (flag4 h).toNat ++ [ub h.ttl, ub h.pro] ++ R) by simp]
    rw [numF_mid _ _ _ 4 2 (by simp [toBe_length]) (toBe_length _ _), be_toBe2 _ (by omega)]
  have hF : numF (pkt4 h l ++ more) 6 2 = (flag4 h).toNat := by
    rw [hP, heq, show [ub (64 + (S : Int) / 4), ub h.tos] ++ toBe 2 all ++ toBe 2 h.id.toNat ++ toBe 2 (flag4 h).toNat ++ [ub h.ttl, ub h.pro] ++ R = ([ub (64 + (S : Int) / 4), ub h.tos] ++ toBe 2 all ++ toBe 2 h.id.toNat) ++ toBe 2 (flag4 h).toNat ++ ([ub h.ttl, ub h.pro] ++ R) by simp]
    rw [numF_mid _ _ _ 6 2 (by simp [toBe_length]) (toBe_length _ _), be_toBe2 _ (by omega)]
  have hsz : size4n (pkt4 h l ++ more) = S := by
    unfold size4n
    rw [h0]
    omega
  have hlen : (pkt4 h l ++ more).length = all + more.length := by rw [List.length_append, pkt4_length h hk, hall]
  have hT : (pkt4 h l ++ more).take S = head4 h all := by
    rw [hp, List.append_assoc]
    exact List.take_left' (by rw [head4_length h hk, hS])
  have h12 : ((pkt4 h l ++ more).drop 12).take 4 = h.src := by
    have e : pkt4 h l ++ more = (hdA h all ++ toBe 2 (sumC h all)) ++ (h.src ++ (h.dst ++ h.opt ++ l ++ more)) := by rw [hp, head4, bk4]; simp
    rw [e, List.drop_left' (by rw [List.length_append, hdA_length, toBe_length]), List.take_left' hk.src]
  have h16 : ((pkt4 h l ++ more).drop 16).take 4 = h.dst := by
    have e : pkt4 h l ++ more = (hdA h all ++ toBe 2 (sumC h all) ++ h.src) ++ (h.dst ++ (h.opt ++ l ++ more)) := by rw [hp, head4, bk4]; simp
    rw [e, List.drop_left' (by simp [hdA_length, toBe_length, hk.src]), List.take_left' hk.dst]
  have h20 : ((pkt4 h l ++ more).take S).drop 20 = h.opt := by
    rw [hT]
    have e : head4 h all = (hdA h all ++ toBe 2 (sumC h all) ++ h.src ++ h.dst) ++ h.opt := by rw [head4, bk4]; simp
    rw [e]
    exact List.drop_left' (by simp [hdA_length, toBe_length, hk.src, hk.dst])
  have hflag : flag4 h = h.off + (if h.keep then 16384 else 0) + (if h.more then 8192 else 0) := rfl
  unfold par4
  rw [if_neg (by omega), h0, if_neg (by omega), hsz, hL, if_neg (by omega), hT, if_neg (by rw [raw_head4]; omega), h1, h8, h9, hI, hF, h12, h16]
  rw [show (head4 h all).drop 20 = h.opt by rw [← hT]; exact h20, ub_nat _ t0 t1, ub_nat _ l0 l1, ub_nat _ p0 p1, ← hall]
  obtain ⟨tos, len, id, keep, more', off, ttl, pro, src, dst, opt⟩ := h
  simp only at hflag d0 d1 hbad g2 ⊢
  have e1 : ((id.toNat : Nat) : Int) = id := by omega
  have e2 : decide ((flag4 ⟨tos, len, id, keep, more', off, ttl, pro, src, dst, opt⟩).toNat / 16384 % 2 = 1) = keep := by
    cases keep <;> cases more' <;> simp at hflag ⊢ <;> omega
  have e3 : decide ((flag4 ⟨tos, len, id, keep, more', off, ttl, pro, src, dst, opt⟩).toNat / 8192 % 2 = 1) = more' := by
    cases keep <;> cases more' <;> simp at hflag ⊢ <;> omega
  have e5 : (((flag4 ⟨tos, len, id, keep, more', off, ttl, pro, src, dst, opt⟩).toNat % 8192 : Nat) : Int) = off := by
    cases keep <;> cases more' <;> simp at hflag ⊢ <;> omega
  rw [e1, e2, e3, e5]
theorem body4_pkt (h : H4) (hf : h.fit) (hx : ¬ h.bad) (l more : List UInt8) (hl : 20 + h.opt.length + l.length ≤ 65535) : body4 (pkt4 h l ++ more) = l := by
  unfold body4
  rw [par4_pkt h hf hx l more hl, if_pos rfl]
  simp only [Int.toNat_natCast]
  rw [List.take_left' (pkt4_length h hf.ok l)]
  unfold pkt4
  exact List.drop_left' (head4_length h hf.ok _)
theorem put4_yes (h : H4) (hx : ¬ h.bad) (l : List UInt8) (hl : 20 + h.opt.length + l.length ≤ 65535) : put4 h l = (pkt4 h l, 0) := by
  unfold put4
  rw [if_neg hx, if_neg (by omega)]
/-- with another time to live -/
def H4.at_ttl (h : H4) (t : Int) : H4 := { h with ttl := t }
theorem H4.at_fit (h : H4) (hf : h.fit) (t : Int) (h0 : 0 ≤ t) (h1 : t ≤ 255) : (h.at_ttl t).fit := ⟨⟨hf.ok.src, hf.ok.dst⟩, hf.tos, hf.len, hf.id, hf.off, ⟨h0, h1⟩, hf.pro, hf.opt⟩
theorem H4.at_bad (h : H4) (hx : ¬ h.bad) (t : Int) : ¬ (h.at_ttl t).bad := hx
theorem ttl4_pkt (h : H4) (hf : h.fit) (hx : ¬ h.bad) (l more : List UInt8) (hl : 20 + h.opt.length + l.length ≤ 65535) (t : Int) (h0 : 0 ≤ t) (h1 : t ≤ 255) :
    ttl4 (pkt4 h l ++ more) t = pkt4 (h.at_ttl t) l ++ more := by
  unfold ttl4
  rw [par4_pkt h hf hx l more hl, if_pos rfl]
  obtain ⟨all, hall⟩ : ∃ all, 20 + h.opt.length + l.length = all := ⟨_, rfl⟩
  have hp : pkt4 h l = head4 h all ++ l := by unfold pkt4; rw [hall]
  have hp2 : pkt4 (h.at_ttl t) l = head4 (h.at_ttl t) all ++ l := by unfold pkt4; rw [show (h.at_ttl t).opt = h.opt from rfl, hall]
  have hf2 := h.at_fit hf t h0 h1
  have hx2 := h.at_bad hx t
  have heq := hdA_eq h hf hx all
  have heq2 := hdA_eq (h.at_ttl t) hf2 hx2 all
  obtain ⟨l0, l1⟩ := hf.ttl
  obtain ⟨p0, p1⟩ := hf.pro
  obtain ⟨_, _, g4, g5⟩ := good4 h hf hx all (by omega)
  obtain ⟨q1, q2, q4, q5⟩ := good4 (h.at_ttl t) hf2 hx2 all (by omega)
  obtain ⟨F, hF⟩ : ∃ F, F = [ub (64 + ((20 + h.opt.length : Nat) : Int) / 4), ub h.tos] ++ toBe 2 all ++ toBe 2 h.id.toNat ++ toBe 2 (flag4 h).toNat := ⟨_, rfl⟩
  have hF8 : F.length = 8 := by rw [hF]; simp [toBe_length]
  have hA1 : hdA h all = F ++ [ub h.ttl, ub h.pro] := by rw [heq, hF]
  have hA2 : hdA (h.at_ttl t) all = F ++ [ub t, ub h.pro] := by rw [heq2, hF]; rfl
  obtain ⟨Z, hZ⟩ : ∃ Z, Z = bk4 h ++ l ++ more := ⟨_, rfl⟩
  have hP : pkt4 h l ++ more = F ++ (ub h.ttl :: ub h.pro :: (toBe 2 (sumC h all) ++ Z)) := by rw [hp, head4, hA1, hZ]; simp
  have hTA : ttlA (pkt4 h l ++ more) t = (F ++ [ub t, ub h.pro]) ++ (toBe 2 (sumC h all) ++ Z) := by
    unfold ttlA
    rw [hP, List.take_left' hF8, show (9 : Nat) = 8 + 1 from rfl, ← List.drop_drop, List.drop_left' hF8]
    simp
  have hFl : (F ++ [ub t, ub h.pro]).length = 10 := by rw [List.length_append, hF8]; rfl
  have n10 : numF (pkt4 h l ++ more) 10 2 = sumC h all := by
    rw [hP, show F ++ (ub h.ttl :: ub h.pro :: (toBe 2 (sumC h all) ++ Z)) = (F ++ [ub h.ttl, ub h.pro]) ++ toBe 2 (sumC h all) ++ Z by simp]
    rw [numF_mid _ _ _ 10 2 (by rw [List.length_append, hF8]; rfl) (toBe_length _ _), be_toBe2 _ (sumC_le h all)]
  have n8 : numF (pkt4 h l ++ more) 8 2 = (word4 h).toNat := by
    rw [hP, show F ++ (ub h.ttl :: ub h.pro :: (toBe 2 (sumC h all) ++ Z)) = F ++ [ub h.ttl, ub h.pro] ++ (toBe 2 (sumC h all) ++ Z) by simp, ← two_ub _ _ l0 l1 p0 p1]
    rw [numF_mid _ _ _ 8 2 hF8 (toBe_length _ _), show h.ttl * 256 + h.pro = word4 h from rfl, be_toBe2 _ (by omega)]
  have n8' : numF (ttlA (pkt4 h l ++ more) t) 8 2 = (word4 (h.at_ttl t)).toNat := by
    rw [hTA, ← two_ub _ _ h0 h1 p0 p1]
    rw [numF_mid _ _ _ 8 2 hF8 (toBe_length _ _), show t * 256 + h.pro = word4 (h.at_ttl t) from rfl, be_toBe2 _ (by omega)]
  have hC : ttlC (pkt4 h l ++ more) t = sumC (h.at_ttl t) all := by
    unfold ttlC turnN
    rw [n10, n8, n8']
    unfold sumC rawN
    have s1 := sum_hdA h hf hx all (by omega) (bk4 h)
    have s2 := sum_hdA (h.at_ttl t) hf2 hx2 all (by omega) (bk4 (h.at_ttl t))
    have b1 : bk4 (h.at_ttl t) = bk4 h := rfl
    have b2 : word0 (h.at_ttl t) = word0 h := rfl
    have b3 : flag4 (h.at_ttl t) = flag4 h := rfl
    have b5 : (h.at_ttl t).id = h.id := rfl
    rw [b1, b2, b3, b5] at s2
    rw [b1]
    exact sum_anew _ _ (word4 h).toNat (word4 (h.at_ttl t)).toNat (by omega) (by omega) (by omega) (by omega) (by omega)
  rw [hC, hTA, List.take_left' hFl, show (12 : Nat) = 10 + 2 from rfl, ← List.drop_drop, List.drop_left' hFl, List.drop_left' (toBe_length _ _), hp2, head4, hA2, hZ]
  simp only [List.append_assoc]
  rfl

theorem xor_bit (u b : Nat) (hu : u < 256) (hb : b < 8) : ((u ^^^ 2 ^ b) = u + 2 ^ b ∨ (u ^^^ 2 ^ b) + 2 ^ b = u) ∧ (u ^^^ 2 ^ b) < 256 := by
  have key : ∀ (u : Fin 256) (b : Fin 8), ((u.val ^^^ 2 ^ b.val) = u.val + 2 ^ b.val ∨ (u.val ^^^ 2 ^ b.val) + 2 ^ b.val = u.val) ∧ (u.val ^^^ 2 ^ b.val) < 256 := by decide +kernel
  exact key ⟨u, hu⟩ ⟨b, hb⟩
theorem pow_le7 (b : Nat) (h : b < 8) : 1 ≤ 2 ^ b ∧ 2 ^ b ≤ 128 := by
  have : 2 ^ b ≤ 2 ^ 7 := Nat.pow_le_pow_right (by omega) (by omega)
  exact ⟨Nat.one_le_two_pow, by omega⟩
theorem raw_turned (l : List UInt8) (j : Nat) (u : UInt8) (b : Nat) (hb : b < 8) (hu : l[j]? = some u) (hr : rawN l = 65535) : rawN (l.set j (UInt8.ofNat (u.toNat ^^^ 2 ^ b))) ≠ 65535 := by
  obtain ⟨hx, hlt⟩ := xor_bit u.toNat b u.toNat_lt hb
  obtain ⟨p1, p2⟩ := pow_le7 b hb
  have hs := sumB_set false l j (UInt8.ofNat (u.toNat ^^^ 2 ^ b)) u hu
  rw [UInt8.toNat_ofNat', Nat.mod_eq_of_lt (show u.toNat ^^^ 2 ^ b < 2 ^ 8 by omega)] at hs
  unfold rawN at hr ⊢
  generalize sumB false l = s at *
  generalize sumB false (l.set j (UInt8.ofNat (u.toNat ^^^ 2 ^ b))) = s' at *
  generalize u.toNat ^^^ 2 ^ b = v at *
  generalize 2 ^ b = p at *
  generalize u.toNat = x at *
  intro hr'
  unfold foldN at hr hr'
  split at hr
  · omega
  split at hr'
  · omega
  split at hs <;> omega

/-- a packet of which one bit of the header is another one -/
theorem par4_turned (h : H4) (hf : h.fit) (hx : ¬ h.bad) (l : List UInt8) (hl : 20 + h.opt.length + l.length ≤ 65535) (k : Nat) (hk4 : 4 ≤ k) (hk : k < 8 * (20 + h.opt.length)) (u : UInt8) (hu : (pkt4 h l)[k / 8]? = some u) (e : Int)
    (he : e = (par4 ((pkt4 h l).set (k / 8) (UInt8.ofNat (u.toNat ^^^ 2 ^ (k % 8))))).2) : e = 14 ∨ (k / 8 = 0 ∧ e ≠ 0) ∨ ((k / 8 = 2 ∨ k / 8 = 3) ∧ e = 13) := by
  obtain ⟨P, hP⟩ : ∃ P, P = pkt4 h l := ⟨_, rfl⟩
  obtain ⟨v, hv⟩ : ∃ v, v = UInt8.ofNat (u.toNat ^^^ 2 ^ (k % 8)) := ⟨_, rfl⟩
  obtain ⟨S, hS⟩ : ∃ S, 20 + h.opt.length = S := ⟨_, rfl⟩
  have hpar := par4_pkt h hf hx l [] hl
  rw [List.append_nil, ← hP] at hpar
  rw [← hP] at hu he
  rw [← hv] at he
  have hPl : P.length = 20 + h.opt.length + l.length := by rw [hP, pkt4_length h hf.ok]
  have hbad := hx
  unfold H4.bad at hbad
  have hT : P.take S = head4 h (20 + h.opt.length + l.length) := by
    rw [hP, pkt4]
    exact List.take_left' (by rw [head4_length h hf.ok, hS])
  have hv0 : (P.getD 0 0).toNat / 16 = 4 ∧ size4n P = S := by
    have hz : (par4 P).2 = 0 := by rw [hpar]
    have ho : 20 + (par4 P).1.opt.length = S := by rw [hpar]; exact hS
    unfold par4 at hz ho
    split at hz
    · cases hz
    split at hz
    · cases hz
    split at hz
    · cases hz
    split at hz
    · cases hz
    rename_i q1 q2 q3 q4
    rw [if_neg q1, if_neg q2, if_neg q3, if_neg q4] at ho
    simp only [List.length_drop, List.length_take] at ho
    omega
  obtain ⟨w0, ws⟩ := hv0
  have hset : ∀ i, i ≠ k / 8 → (P.set (k / 8) v).getD i 0 = P.getD i 0 := by
    intro i hi
    rw [List.getD_eq_getElem?_getD, List.getD_eq_getElem?_getD, List.getElem?_set_ne (fun e => hi e.symm)]
  have hlen2 : (P.set (k / 8) v).length = P.length := List.length_set
  by_cases h0 : k / 8 = 0
  · refine .inr (.inl ⟨h0, ?_⟩)
    rw [h0] at hu he
    have hg : (P.set 0 v).getD 0 0 = v := by
      rw [List.getD_eq_getElem?_getD, List.getElem?_set_self (by omega)]
      rfl
    have hu0 : P.getD 0 0 = u := by rw [List.getD_eq_getElem?_getD, hu]; rfl
    rw [hu0] at w0
    obtain ⟨x1, x2⟩ := xor_bit u.toNat (k % 8) u.toNat_lt (by omega)
    have hvn : v.toNat = u.toNat ^^^ 2 ^ (k % 8) := by rw [hv, UInt8.toNat_ofNat', Nat.mod_eq_of_lt (by omega)]
    have hp4 : 2 ^ (k % 8) % 16 = 0 ∧ 16 ≤ 2 ^ (k % 8) := by
      have : k % 8 = 4 ∨ k % 8 = 5 ∨ k % 8 = 6 ∨ k % 8 = 7 := by omega
      rcases this with q | q | q | q <;> rw [q] <;> decide
    have hne : v.toNat / 16 ≠ 4 := by omega
    have : par4 (P.set 0 v) = (H4.zero, 12) := by
      unfold par4
      rw [if_neg (by rw [List.length_set]; omega), hg, if_pos hne]
    rw [he, this]
    decide
  · have g0 := hset 0 (fun e => h0 e.symm)
    have hsz : size4n (P.set (k / 8) v) = S := by unfold size4n at ws ⊢; rw [g0]; exact ws
    have hraw : rawN ((P.set (k / 8) v).take S) ≠ 65535 := by
      have hkS : k / 8 < S := by omega
      rw [List.take_set, hT]
      rw [hv]
      refine raw_turned _ _ u (k % 8) (by omega) ?_ (raw_head4 _ _)
      rw [← hT, List.getElem?_take, if_pos hkS]
      exact hu
    by_cases h23 : k / 8 = 2 ∨ k / 8 = 3
    · by_cases hc : S < 20 ∨ numF (P.set (k / 8) v) 2 2 < S ∨ (P.set (k / 8) v).length < numF (P.set (k / 8) v) 2 2
      · refine .inr (.inr ⟨h23, ?_⟩)
        rw [he]
        unfold par4
        rw [if_neg (by omega), g0, if_neg (by omega), hsz, if_pos hc]
      · left
        rw [he]
        unfold par4
        rw [if_neg (by omega), g0, if_neg (by omega), hsz, if_neg hc, if_pos hraw]
    · left
      have hL : numF (P.set (k / 8) v) 2 2 = 20 + h.opt.length + l.length := by
        have hLP : numF P 2 2 = 20 + h.opt.length + l.length := by
          obtain ⟨L, S', e1, e2, _, _, _, _, e7⟩ := par4_fit P _ hpar
          simp only at e1
          omega
        have : ((P.set (k / 8) v).drop 2).take 2 = (P.drop 2).take 2 := by
          apply List.ext_getElem?
          intro i
          rw [List.getElem?_take, List.getElem?_take]
          split
          · rw [List.getElem?_drop, List.getElem?_drop, List.getElem?_set_ne (by omega)]
          · rfl
        unfold numF at hLP ⊢
        rw [this]
        exact hLP
      rw [he]
      unfold par4
      rw [if_neg (by omega), g0, if_neg (by omega), hsz, hL, if_neg (by omega), if_pos hraw]
end Go.Proofs.Ytimkgkokidhhpaa

/- Plain laws of IPv6's packets: what is put is parsed. No condition. -/
import Derived.Test.YtimkgkokidhhpaaIp6d
namespace Go.Proofs.Ytimkgkokidhhpaa
open Go.RowKit
set_option linter.unusedVariables false
set_option maxRecDepth 20000
set_option linter.unusedSimpArgs false

/-- a packet -/
def pkt6 (h : H6) (l : List UInt8) : List UInt8 := front6 h l.length ++ h.src ++ h.dst ++ l
theorem front6_length (h : H6) (n : Nat) : (front6 h n).length = 8 := by simp [front6, toBe_length]
theorem pkt6_length (h : H6) (hf : h.ok) (l : List UInt8) : (pkt6 h l).length = 40 + l.length := by
  simp only [pkt6, List.length_append, front6_length, hf.src, hf.dst]
theorem par6_pkt (h : H6) (hf : h.fit) (hx0 : 0 ≤ h.flow) (hx1 : h.flow < 1048576) (l more : List UInt8) (hl : l.length ≤ 65495) :
    par6 (pkt6 h l ++ more) = ({ h with len := (l.length : Nat) }, 0) := by
  obtain ⟨c0, c1⟩ := hf.cls
  obtain ⟨n0, n1⟩ := hf.next
  obtain ⟨t0, t1⟩ := hf.ttl
  obtain ⟨N, hN⟩ : ∃ N : Nat, (N : Int) = 1610612736 + h.cls * 1048576 + h.flow := ⟨(1610612736 + h.cls * 1048576 + h.flow).toNat, by omega⟩
  have hfr : front6 h l.length = toBe 4 N ++ toBe 2 l.length ++ [ub h.next, ub h.ttl] := by
    unfold front6
    rw [← hN, Int.toNat_natCast]
  have e0 : pkt6 h l ++ more = [] ++ toBe 4 N ++ (toBe 2 l.length ++ [ub h.next, ub h.ttl] ++ h.src ++ h.dst ++ l ++ more) := by simp [pkt6, hfr]
  have e4 : pkt6 h l ++ more = toBe 4 N ++ toBe 2 l.length ++ ([ub h.next, ub h.ttl] ++ h.src ++ h.dst ++ l ++ more) := by simp [pkt6, hfr]
  have hF : numF (pkt6 h l ++ more) 0 4 = N := by
    rw [e0, numF_mid [] (toBe 4 N) _ 0 4 rfl (toBe_length _ _), be_toBe]
    exact Nat.mod_eq_of_lt (by omega)
  have hL : numF (pkt6 h l ++ more) 4 2 = l.length := by
    rw [e4, numF_mid (toBe 4 N) (toBe 2 l.length) _ 4 2 (toBe_length _ _) (toBe_length _ _), be_toBe]
    exact Nat.mod_eq_of_lt (by omega)
  have h6 : (pkt6 h l ++ more).getD 6 0 = ub h.next := by
    have e : pkt6 h l ++ more = (toBe 4 N ++ toBe 2 l.length) ++ (ub h.next :: ub h.ttl :: (h.src ++ h.dst ++ l ++ more)) := by simp [pkt6, hfr]
    rw [e, List.getD_eq_getElem?_getD, List.getElem?_append_right (by simp [toBe_length])]
    simp [toBe_length]
  have h7 : (pkt6 h l ++ more).getD 7 0 = ub h.ttl := by
    have e : pkt6 h l ++ more = (toBe 4 N ++ toBe 2 l.length ++ [ub h.next]) ++ (ub h.ttl :: (h.src ++ h.dst ++ l ++ more)) := by simp [pkt6, hfr]
    rw [e, List.getD_eq_getElem?_getD, List.getElem?_append_right (by simp [toBe_length])]
    simp [toBe_length]
  have h8 : ((pkt6 h l ++ more).drop 8).take 16 = h.src := by
    have e : pkt6 h l ++ more = front6 h l.length ++ (h.src ++ (h.dst ++ l ++ more)) := by simp [pkt6]
    rw [e, List.drop_left' (front6_length _ _), List.take_left' hf.ok.src]
  have h24 : ((pkt6 h l ++ more).drop 24).take 16 = h.dst := by
    have e : pkt6 h l ++ more = (front6 h l.length ++ h.src) ++ (h.dst ++ (l ++ more)) := by simp [pkt6]
    rw [e, List.drop_left' (by rw [List.length_append, front6_length, hf.ok.src]), List.take_left' hf.ok.dst]
  have hlen : (pkt6 h l ++ more).length = 40 + l.length + more.length := by rw [List.length_append, pkt6_length h hf.ok]
  unfold par6
  rw [hF, hL, h6, h7, h8, h24, if_neg (by omega), if_neg (by omega), if_neg (by omega)]
  have k1 : ((N / 1048576 % 256 : Nat) : Int) = h.cls := by omega
  have k2 : ((N % 1048576 : Nat) : Int) = h.flow := by omega
  rw [k1, k2, ub_nat _ n0 n1, ub_nat _ t0 t1]
theorem body6_pkt (h : H6) (hf : h.fit) (hx0 : 0 ≤ h.flow) (hx1 : h.flow < 1048576) (l more : List UInt8) (hl : l.length ≤ 65495) : body6 (pkt6 h l ++ more) = l := by
  unfold body6
  rw [par6_pkt h hf hx0 hx1 l more hl, if_pos rfl]
  have e : pkt6 h l ++ more = (front6 h l.length ++ h.src ++ h.dst) ++ (l ++ more) := by simp [pkt6]
  rw [e, List.drop_left' (by simp [front6_length, hf.ok.src, hf.ok.dst])]
  simp
theorem ttl6_pkt (h : H6) (hf : h.fit) (hx0 : 0 ≤ h.flow) (hx1 : h.flow < 1048576) (l more : List UInt8) (hl : l.length ≤ 65495) (t : Int) : ttl6 (pkt6 h l ++ more) t = pkt6 { h with ttl := t } l ++ more := by
  unfold ttl6
  rw [par6_pkt h hf hx0 hx1 l more hl, if_pos rfl]
  obtain ⟨N, hN⟩ : ∃ N : Nat, N = (1610612736 + h.cls * 1048576 + h.flow).toNat := ⟨_, rfl⟩
  have hX : ∀ u, pkt6 { h with ttl := u } l ++ more = (toBe 4 N ++ toBe 2 l.length ++ [ub h.next]) ++ (ub u :: (h.src ++ h.dst ++ l ++ more)) := by intro u; simp [pkt6, front6, hN]
  have hl7 : (toBe 4 N ++ toBe 2 l.length ++ [ub h.next]).length = 7 := by simp [toBe_length]
  rw [hX t]
  have := hX h.ttl
  rw [show ({ h with ttl := h.ttl } : H6) = h from rfl] at this
  rw [this, List.take_left' hl7, show (8 : Nat) = 7 + 1 from rfl, ← List.drop_drop, List.drop_left' hl7]
  rfl
theorem put6_yes (h : H6) (hx0 : 0 ≤ h.flow) (hx1 : h.flow < 1048576) (l : List UInt8) (hl : l.length ≤ 65495) : put6 h l = (pkt6 h l, 0) := by
  unfold put6
  rw [if_neg (by omega), if_neg (by omega)]
  rfl
end Go.Proofs.Ytimkgkokidhhpaa

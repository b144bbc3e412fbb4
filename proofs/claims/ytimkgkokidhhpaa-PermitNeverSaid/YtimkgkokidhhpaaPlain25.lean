/- Plain laws of when an error may be told. No program in sight. -/
import Derived.Test.YtimkgkokidhhpaaPerm4
import Derived.Test.YtimkgkokidhhpaaPlain4
import Derived.Test.YtimkgkokidhhpaaPlain6
namespace Go.Proofs.Ytimkgkokidhhpaa
open Go.RowKit
set_option linter.unusedVariables false
set_option maxRecDepth 20000
set_option linter.unusedSimpArgs false

theorem num_hd (l : List UInt8) (h : 4 ≤ l.length) : numF l 0 4 / 268435456 = (l.getD 0 0).toNat / 16 := by
  match l, h with
  | u0 :: u1 :: u2 :: u3 :: t, _ =>
    have e : numF (u0 :: u1 :: u2 :: u3 :: t) 0 4 = ((u0.toNat * 256 + u1.toNat) * 256 + u2.toNat) * 256 + u3.toNat := by
      simp [numF, be]
    rw [e]
    have h0 := u0.toNat_lt
    have h1 := u1.toNat_lt
    have h2 := u2.toNat_lt
    have h3 := u3.toNat_lt
    simp only [List.getD_cons_zero]
    omega
theorem par_one (l : List UInt8) (h : (par6 l).2 = 0) : (par4 l).2 ≠ 0 := by
  have hv : 40 ≤ l.length ∧ numF l 0 4 / 268435456 = 6 := by
    unfold par6 at h
    split at h
    · simp at h
    · split at h
      · simp at h
      · rename_i a b
        exact ⟨by omega, by simpa using b⟩
  have hn := num_hd l (by omega)
  unfold par4
  rw [if_neg (by omega), if_pos (by omega)]
  simp
theorem fourF_pkt (h : H4) (hf : h.fit) (hx : ¬ h.bad) (l : List UInt8) (hl : 20 + h.opt.length + l.length ≤ 65535) :
    fourF (pkt4 h l) = (plA h.src && (!muA h.dst && (h.off == 0 && !(h.pro == 1 && (!(decide (h.off > 0)) && headIs (fun x => kinds.contains x) l))))) := by
  have hpar := par4_pkt h hf hx l [] hl
  have hbod := body4_pkt h hf hx l [] hl
  rw [List.append_nil] at hpar hbod
  unfold fourF is4F
  rw [hpar, hbod]
  simp
theorem sixF_pkt (h : H6) (hf : h.fit) (hx0 : 0 ≤ h.flow) (hx1 : h.flow < 1048576) (l : List UInt8) (hl : l.length ≤ 65495) (big : Bool) :
    sixF (pkt6 h l) big = (pl6 h.src && ((big || !mu6 h.dst) && !(h.next == 58 && headIs (fun x => decide (x < 128)) l))) := by
  have hpar := par6_pkt h hf hx0 hx1 l [] hl
  have hbod := body6_pkt h hf hx0 hx1 l [] hl
  rw [List.append_nil] at hpar hbod
  unfold sixF is6F
  rw [hpar, hbod]
  simp
theorem either_pkt4 (h : H4) (hf : h.fit) (hx : ¬ h.bad) (l : List UInt8) (hl : 20 + h.opt.length + l.length ≤ 65535) : eitherF (pkt4 h l) = 4 := by
  have hpar := par4_pkt h hf hx l [] hl
  rw [List.append_nil] at hpar
  unfold eitherF
  rw [hpar, if_pos rfl]
theorem either_pkt6 (h : H6) (hf : h.fit) (hx0 : 0 ≤ h.flow) (hx1 : h.flow < 1048576) (l : List UInt8) (hl : l.length ≤ 65495) : eitherF (pkt6 h l) = 6 := by
  have hpar := par6_pkt h hf hx0 hx1 l [] hl
  rw [List.append_nil] at hpar
  have h0 : (par6 (pkt6 h l)).2 = 0 := by rw [hpar]
  unfold eitherF
  rw [if_neg (par_one _ h0), if_pos h0]
theorem four_kind (l : List UInt8) (h : fourF l = true) : eitherF l = 4 := by
  unfold fourF at h
  simp only [Bool.and_eq_true, beq_iff_eq] at h
  unfold eitherF
  rw [if_pos h.1]
theorem six_kind (l : List UInt8) (b : Bool) (h : sixF l b = true) : eitherF l = 6 := by
  unfold sixF at h
  simp only [Bool.and_eq_true, beq_iff_eq] at h
  unfold eitherF
  rw [if_neg (par_one _ h.1), if_pos h.1]
theorem six_big (l : List UInt8) (h : sixF l false = true) : sixF l true = true := by
  unfold sixF at h ⊢
  simp only [Bool.and_eq_true, Bool.true_or] at h ⊢
  exact ⟨h.1, h.2.1, trivial, h.2.2.2⟩
theorem four_short (l : List UInt8) (h : l.length < 20) : fourF l = false := by
  unfold fourF par4
  rw [if_pos h]
  rfl
theorem six_short (l : List UInt8) (b : Bool) (h : l.length < 40) : sixF l b = false := by
  unfold sixF par6
  rw [if_pos h]
  rfl
end Go.Proofs.Ytimkgkokidhhpaa

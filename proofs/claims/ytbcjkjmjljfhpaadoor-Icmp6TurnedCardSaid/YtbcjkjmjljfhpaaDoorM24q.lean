/- Plain laws of ICMPv6's messages: one bit of the addresses, or of the message, turned. No condition. -/
import Derived.Test.YtbcjkjmjljfhpaaDoorG24
namespace Go.Proofs.YtbcjkjmjljfhpaaDoor
open Go.RowKit
set_option linter.unusedVariables false
set_option maxRecDepth 20000

theorem readF_wrong (s d B : List UInt8) (hs : s.length = 16) (hd : d.length = 16) (h8 : 8 ≤ B.length) (hB : B.length ≤ 65495) (hr : rawN (s ++ d ++ toBe 4 B.length ++ [0, 0, 0, 58] ++ B) ≠ 65535) : (readF (pkt6 (head24 s d) B)).2 = 14 := by
  have hP := par6_pkt (head24 s d) (head24_fit s d hs hd) (by simp [head24]) (by simp [head24]) B [] hB
  have hb := body6_pkt (head24 s d) (head24_fit s d hs hd) (by simp [head24]) (by simp [head24]) B [] hB
  rw [List.append_nil] at hP hb
  have hps : psF (pkt6 (head24 s d) B) = s ++ d ++ toBe 4 B.length ++ [0, 0, 0, 58] := by
    unfold psF
    rw [hP, hb]
    show pseudoF s d 58 _ = _
    unfold pseudoF
    rw [if_neg (by omega), if_neg (by omega), if_pos ⟨hs, hd, by omega⟩]
    rfl
  unfold readF
  rw [hP, hb, hps, if_neg (by simp), if_neg (by simp [head24]), if_neg (by omega), if_pos hr]
theorem turned24 (s d B : List UInt8) (hs : s.length = 16) (hd : d.length = 16) (h8 : 8 ≤ B.length) (hB : B.length ≤ 65495) (hr : rawN (pseudoF s d 58 (B.length : Int) ++ B) = 65535)
    (j : Nat) (hj : 8 ≤ j) (u : UInt8) (hu : (pkt6 (head24 s d) B)[j]? = some u) (b : Nat) (hb : b < 8) :
    (readF ((pkt6 (head24 s d) B).set j (UInt8.ofNat (u.toNat ^^^ 2 ^ b)))).2 = 14 := by
  have hps : pseudoF s d 58 (B.length : Int) = s ++ d ++ toBe 4 B.length ++ [0, 0, 0, 58] := by
    unfold pseudoF
    rw [if_neg (by omega), if_neg (by omega), if_pos ⟨hs, hd, by omega⟩]
    rfl
  rw [hps] at hr
  have hf := front6_length (head24 s d) B.length
  obtain ⟨v, hv⟩ : ∃ v, UInt8.ofNat (u.toNat ^^^ 2 ^ b) = v := ⟨_, rfl⟩
  have key : ∀ i, (s ++ d ++ toBe 4 B.length ++ [0, 0, 0, 58] ++ B)[i]? = some u → rawN ((s ++ d ++ toBe 4 B.length ++ [0, 0, 0, 58] ++ B).set i v) ≠ 65535 := fun i hi => by
    rw [← hv]
    exact raw_turnedX _ i u b hb hi hr
  rw [hv]
  unfold pkt6 at hu ⊢
  show (readF ((front6 (head24 s d) B.length ++ s ++ d ++ B).set j v)).2 = 14
  have hu : (front6 (head24 s d) B.length ++ s ++ d ++ B)[j]? = some u := hu
  by_cases h1 : j < 24
  · have e : (front6 (head24 s d) B.length ++ s ++ d ++ B).set j v = pkt6 (head24 (s.set (j - 8) v) d) B := by
      show _ = front6 (head24 s d) B.length ++ s.set (j - 8) v ++ d ++ B
      simp only [List.append_assoc]
      rw [List.set_append_right _ _ (by omega), hf, List.set_append_left _ _ (by omega)]
    rw [e]
    refine readF_wrong _ _ _ (by rw [List.length_set]; exact hs) hd h8 hB ?_
    have k := key (j - 8) (by
      simp only [List.append_assoc] at hu ⊢
      rw [List.getElem?_append_right (by omega), hf, List.getElem?_append_left (by omega)] at hu
      rw [List.getElem?_append_left (by omega)]
      exact hu)
    simp only [List.append_assoc] at k ⊢
    rw [List.set_append_left _ _ (by omega)] at k
    exact k
  · by_cases h2 : j < 40
    · have e : (front6 (head24 s d) B.length ++ s ++ d ++ B).set j v = pkt6 (head24 s (d.set (j - 24) v)) B := by
        show _ = front6 (head24 s d) B.length ++ s ++ d.set (j - 24) v ++ B
        simp only [List.append_assoc]
        rw [List.set_append_right _ _ (by omega), hf, List.set_append_right _ _ (by omega), hs, List.set_append_left _ _ (by omega), show j - 8 - 16 = j - 24 by omega]
      rw [e]
      refine readF_wrong _ _ _ hs (by rw [List.length_set]; exact hd) h8 hB ?_
      have k := key (j - 8) (by
        simp only [List.append_assoc] at hu ⊢
        rw [List.getElem?_append_right (by omega), hf, List.getElem?_append_right (by omega), hs, List.getElem?_append_left (by omega)] at hu
        rw [List.getElem?_append_right (by omega), hs, List.getElem?_append_left (by omega)]
        exact hu)
      simp only [List.append_assoc] at k ⊢
      rw [List.set_append_right _ _ (by omega), hs, List.set_append_left _ _ (by omega), show j - 8 - 16 = j - 24 by omega] at k
      exact k
    · have e : (front6 (head24 s d) B.length ++ s ++ d ++ B).set j v = pkt6 (head24 s d) (B.set (j - 40) v) := by
        show _ = front6 (head24 s d) (B.set (j - 40) v).length ++ s ++ d ++ B.set (j - 40) v
        rw [List.length_set]
        simp only [List.append_assoc]
        rw [List.set_append_right _ _ (by omega), hf, List.set_append_right _ _ (by omega), hs, List.set_append_right _ _ (by omega), hd, show j - 8 - 16 - 16 = j - 40 by omega]
      rw [e]
      refine readF_wrong _ _ _ hs hd (by rw [List.length_set]; exact h8) (by rw [List.length_set]; exact hB) ?_
      rw [List.length_set]
      have hZ : (toBe 4 B.length).length = 4 := toBe_length _ _
      have k := key j (by
        simp only [List.append_assoc] at hu ⊢
        rw [List.getElem?_append_right (by omega), hf, List.getElem?_append_right (by omega), hs, List.getElem?_append_right (by omega), hd, show j - 8 - 16 - 16 = j - 40 by omega] at hu
        rw [List.getElem?_append_right (by omega), hs, List.getElem?_append_right (by omega), hd, List.getElem?_append_right (by omega), hZ, List.getElem?_append_right (by simp; omega), show j - 16 - 16 - 4 - ([0, 0, 0, 58] : List UInt8).length = j - 40 by simp; omega]
        exact hu)
      simp only [List.append_assoc] at k ⊢
      rw [List.set_append_right _ _ (by omega), hs, List.set_append_right _ _ (by omega), hd, List.set_append_right _ _ (by omega), hZ, List.set_append_right _ _ (by simp; omega), show j - 16 - 16 - 4 - ([0, 0, 0, 58] : List UInt8).length = j - 40 by simp; omega] at k
      exact k
theorem getF6_turned (m : Mm) (s d : List UInt8) (hs : s.length = 16) (hd : d.length = 16) (he : (put24 m s d).2 = 0) (j : Nat) (hj : 8 ≤ j) (u : UInt8) (hu : (put24 m s d).1[j]? = some u) (b : Nat) (hb : b < 8) :
    (getF6 ((put24 m s d).1.set j (UInt8.ofNat (u.toNat ^^^ 2 ^ b)))).2 = 14 := by
  obtain ⟨_, _, h3⟩ := put24_yes m s d hs hd he
  have hle := body24_le m s d
  have hge := rest24_ge m
  have hlen := body24_length m s d
  rw [h3] at hu ⊢
  have hX : (ps24 m s d ++ front24 m.kind).length = 42 := by rw [List.length_append, ps24_length m s d hs hd (by omega), front24_length]
  have h := sum24 (ps24 m s d ++ front24 m.kind) (rest24 m) hX
  have e : pseudoF s d 58 ((body24 m s d).length : Int) ++ body24 m s d = (ps24 m s d ++ front24 m.kind) ++ (toBe 2 (65535 - rawN ((ps24 m s d ++ front24 m.kind) ++ 0 :: 0 :: rest24 m)) ++ rest24 m) := by
    have e1 : pseudoF s d 58 ((body24 m s d).length : Int) = ps24 m s d := by
      unfold ps24
      rw [hlen]
      congr 1
    rw [e1]
    unfold body24
    simp
  rw [← e] at h
  have ht := turned24 s d (body24 m s d) hs hd (by omega) (by omega) h j hj u hu b hb
  show (getF6 ((pkt6 (head24 s d) (body24 m s d)).set j _)).2 = 14
  unfold getF6
  rw [ht, if_pos (by decide)]
theorem put24_len (m : Mm) (s d : List UInt8) (hs : s.length = 16) (hd : d.length = 16) (he : (put24 m s d).2 = 0) : 48 ≤ (put24 m s d).1.length ∧ (put24 m s d).1.length ≤ 1444 := by
  obtain ⟨_, _, h3⟩ := put24_yes m s d hs hd he
  have hle := body24_le m s d
  have hge := rest24_ge m
  have hlen := body24_length m s d
  rw [h3]
  show 48 ≤ (pkt6 _ _).length ∧ (pkt6 _ _).length ≤ _
  rw [pkt6_length _ ⟨hs, hd⟩]
  omega
end Go.Proofs.YtbcjkjmjljfhpaaDoor

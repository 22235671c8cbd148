/- Layer 17 in plain Lean: a body read back. -/
import Derived.Test.YthepndimhiieiaaRembE
namespace Go.Proofs.Ythepndimhiieiaa
open Go.RowKit
def rbC (b : List UInt8) : Bool := decide (rbE b = 0 ∧ getV b 5 3 / 262144 = rbX b ∧ getV b 5 3 % 262144 = rbM b)
theorem rbE_ok {b : List UInt8} (h : rbE b = 0) : 8 + 4 * (b.getD 4 0).toNat = b.length ∧ b.length ≤ 65520 ∧ b.take 4 = [82, 69, 77, 66] := by
  unfold rbE at h
  split at h
  · exact absurd h (by decide)
  split at h
  · exact absurd h (by decide)
  split at h
  · exact absurd h (by decide)
  split at h
  · exact absurd h (by decide)
  split at h
  · exact absurd h (by decide)
  rename_i h1 h2 h3 h4 h5
  refine ⟨by omega, by omega, ?_⟩
  rcases Decidable.em (b.take 4 = [82, 69, 77, 66]) with h6 | h6
  · exact h6
  · exact absurd h6 h3
theorem ls_right (x m n : Nat) (hr : rbRight (x : Int) m n = true) : lsX x m = x ∧ lsM x m = m := by
  have h := of_decide_eq_true hr
  by_cases h0 : m = 0
  · subst h0
    have : x = 0 := by omega
    subst this
    exact ⟨rfl, rfl⟩
  · have hd : lsD x m = 0 := by
      unfold lsD
      by_cases hx : x = 0
      · omega
      · have := bitLen_eq m 17 (by omega) (by omega) (by omega)
        omega
    unfold lsX lsM
    rw [if_neg h0, if_neg h0, hd]
    exact ⟨by omega, by omega⟩
theorem rb_back (x m : Nat) (l : List UInt32) (hr : rbRight (x : Int) m l.length = true) : rbE (rbBytes x m l) = 0 ∧ rbX (rbBytes x m l) = x ∧ rbM (rbBytes x m l) = m ∧ rbL (rbBytes x m l) = l ∧ rbC (rbBytes x m l) = true := by
  have h := of_decide_eq_true hr
  have hlen : (rbBytes x m l).length = 8 + 4 * l.length := by simp [rbBytes, rbFix, be_length, cBe_len]; omega
  have h4 : ((rbBytes x m l).getD 4 0).toNat = l.length := by simp [rbBytes, rbFix, UInt8.toNat_ofNat']; omega
  have ht : (rbBytes x m l).take 4 = [82, 69, 77, 66] := by simp [rbBytes, rbFix]
  have hpe : putE (x * 262144 + m) 3 = 0 := putE_of (by omega) (by omega) (by simp; omega)
  have hg : getV (rbBytes x m l) 5 3 = x * 262144 + m := by
    have := (put_get [82, 69, 77, 66, UInt8.ofNat l.length] (cBe l) hpe).2
    rw [putL_ok hpe] at this
    rw [← this]
    simp [rbBytes, rbFix]
  have hd : (rbBytes x m l).drop 8 = cBe l ++ [] := by
    rw [List.append_nil, rbBytes, List.drop_left' (by simp [rbFix, be_length])]
  have e0 : rbE (rbBytes x m l) = 0 := by
    unfold rbE
    rw [if_neg (by omega), if_neg (by omega), if_neg (fun q => q ht), if_neg (by omega), if_neg (by omega)]
  have q1 : (x * 262144 + m) / 262144 = x := by omega
  have q2 : (x * 262144 + m) % 262144 = m := by omega
  obtain ⟨l1, l2⟩ := ls_right x m l.length hr
  have e1 : rbX (rbBytes x m l) = x := by unfold rbX; rw [if_pos e0, hg, q1, q2, l1]
  have e2 : rbM (rbBytes x m l) = m := by unfold rbM; rw [if_pos e0, hg, q1, q2, l2]
  refine ⟨e0, e1, e2, ?_, ?_⟩
  · unfold rbL; rw [if_pos e0, h4, hd, cs_cBe]
  · unfold rbC; rw [e0, e1, e2, hg, q1, q2]; exact decide_eq_true ⟨rfl, rfl, rfl⟩
theorem rb_inj (x m : Nat) (l : List UInt32) (x2 m2 : Nat) (l2 : List UInt32) (hr : rbRight (x : Int) m l.length = true) (hr2 : rbRight (x2 : Int) m2 l2.length = true) : rbBytes x m l = rbBytes x2 m2 l2 ↔ (x = x2 ∧ m = m2 ∧ l = l2) := by
  constructor
  · intro h
    obtain ⟨_, a1, a2, a3, _⟩ := rb_back x m l hr
    obtain ⟨_, b1, b2, b3, _⟩ := rb_back x2 m2 l2 hr2
    rw [h] at a1 a2 a3
    exact ⟨a1.symm.trans b1, a2.symm.trans b2, a3.symm.trans b3⟩
  · rintro ⟨rfl, rfl, rfl⟩; rfl
theorem rb_read (b : List UInt8) (h : rbE b = 0) : rbRight (rbX b : Nat) (rbM b) (rbL b).length = true ∧ (rbBytes (rbX b) (rbM b) (rbL b)).length = b.length ∧ rbC b = decide (rbBytes (rbX b) (rbM b) (rbL b) = b) := by
  obtain ⟨h1, h2, h3⟩ := rbE_ok h
  have hv := getV_lt3 b (by omega)
  have hk := (b.getD 4 0).toNat_lt
  have hL : rbL b = cs (b.getD 4 0).toNat (b.drop 8) := by unfold rbL; rw [if_pos h]
  have hLl : (rbL b).length = (b.getD 4 0).toNat := by rw [hL, cs_len]
  have hX : rbX b = lsX (getV b 5 3 / 262144) (getV b 5 3 % 262144) := by unfold rbX; rw [if_pos h]
  have hM : rbM b = lsM (getV b 5 3 / 262144) (getV b 5 3 % 262144) := by unfold rbM; rw [if_pos h]
  have hr : rbRight (rbX b : Nat) (rbM b) (rbL b).length = true := by
    rw [hX, hM, hLl]
    by_cases h0 : getV b 5 3 % 262144 = 0
    · unfold lsX lsM
      rw [if_pos h0, if_pos h0]
      exact decide_eq_true ⟨by omega, by omega, by omega, by omega, by omega⟩
    · obtain ⟨a, a2, a3, a4⟩ := lsD_le (getV b 5 3 / 262144) (getV b 5 3 % 262144) (by omega) h0
      unfold lsX lsM
      rw [if_neg h0, if_neg h0]
      exact decide_eq_true ⟨by omega, by omega, a2, by omega, by omega⟩
  refine ⟨hr, ?_, ?_⟩
  · have h8 : (rbFix (rbX b) (rbM b) (rbL b).length).length = 8 := by simp [rbFix, be_length]
    rw [rbBytes, List.length_append, h8, cBe_len, hLl]; omega
  · by_cases hc : rbBytes (rbX b) (rbM b) (rbL b) = b
    · rw [decide_eq_true hc]
      have := (rb_back _ _ _ hr).2.2.2.2
      rwa [hc] at this
    · rw [decide_eq_false hc]
      unfold rbC
      refine decide_eq_false ?_
      rintro ⟨_, q1, q2⟩
      apply hc
      have hV : rbX b * 262144 + rbM b = getV b 5 3 := by omega
      have hgv : getV b 5 3 = val ((b.drop 5).take 3) := by unfold getV; rw [if_pos (getE_of (by omega) (by omega) (by omega) (by omega))]; rfl
      have hl3 : ((b.drop 5).take 3).length = 3 := by rw [List.length_take, List.length_drop]; omega
      have hbe : be 3 (getV b 5 3) = (b.drop 5).take 3 := by
        have := be_val ((b.drop 5).take 3)
        rwa [hl3, ← hgv] at this
      have hcb : cBe (rbL b) = b.drop 8 := by
        rw [hL, cBe_cs _ _ (by rw [List.length_drop]; omega), List.take_of_length_le (by rw [List.length_drop]; omega)]
      have hb1 : UInt8.ofNat (rbL b).length = b.getD 4 0 := by rw [hLl]; simp
      have s4 : b.drop 4 = b.getD 4 0 :: b.drop 5 := by
        rw [List.drop_eq_getElem_cons (by omega)]
        simp [List.getD, show 4 < b.length by omega]
      rw [rbBytes, rbFix, hV, hb1, hbe, hcb, ← h3]
      conv => rhs; rw [← List.take_append_drop 4 b, s4, ← List.take_append_drop 3 (b.drop 5), List.drop_drop]
      simp
end Go.Proofs.Ythepndimhiieiaa

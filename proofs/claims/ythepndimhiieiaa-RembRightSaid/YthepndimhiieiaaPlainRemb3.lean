/- Layer 17 in plain Lean: the document's loops. -/
import Derived.Test.YthepndimhiieiaaPlainRemb
namespace Go.Proofs.Ythepndimhiieiaa
open Go Go.Lib
theorem ls_step (x m : Nat) (hx : 0 < x) (hm : m < 131072) : lsX (x - 1) (2 * m) = lsX x m ∧ lsM (x - 1) (2 * m) = lsM x m := by
  by_cases h0 : m = 0
  · subst h0; exact ⟨rfl, rfl⟩
  · have h1 : 2 * m ≠ 0 := by omega
    obtain ⟨k, e, h2, h3⟩ := bitLen_form m (by omega) h0
    have hb := bitLen_le m 17 (by omega) (by omega)
    have e2 : bitLen (2 * m) = k + 1 + 1 := bitLen_eq (2 * m) (k + 1) (by rw [Nat.pow_succ]; omega) (by rw [Nat.pow_succ]; omega) (by omega)
    have hd : lsD x m = lsD (x - 1) (2 * m) + 1 := by unfold lsD; rw [e2, e]; omega
    unfold lsX lsM
    rw [if_neg h0, if_neg h1, if_neg h0, if_neg h1, hd]
    refine ⟨by omega, ?_⟩
    rw [Nat.pow_succ, Nat.mul_comm 2 m, Nat.mul_assoc, Nat.mul_comm 2]
theorem ls_end (x m : Nat) (hm : m < 262144) (h : x = 0 ∨ 131072 ≤ m) : lsX x m = x ∧ lsM x m = m := by
  by_cases h0 : m = 0
  · subst h0
    obtain rfl : x = 0 := by omega
    exact ⟨rfl, rfl⟩
  · have hd : lsD x m = 0 := by
      unfold lsD
      rcases h with rfl | h
      · omega
      · have := bitLen_eq m 17 (by omega) (by omega) (by omega)
        omega
    unfold lsX lsM
    rw [if_neg h0, if_neg h0, hd]
    exact ⟨by omega, by omega⟩
theorem of_step (v : Nat) (hv : v < 2 ^ 64) (h : 262144 ≤ v) : ofX v = ofX (v / 2) + 1 ∧ ofM v = ofM (v / 2) := by
  obtain ⟨k, e, h2, h3⟩ := bitLen_form v hv (by omega)
  have hk : 18 ≤ k := by
    rcases Nat.lt_or_ge k 18 with q | q
    · have : 2 ^ (k + 1) ≤ 2 ^ 18 := Nat.pow_le_pow_right (by omega) (by omega)
      omega
    · exact q
  obtain ⟨j, rfl⟩ : ∃ j, k = j + 1 := ⟨k - 1, by omega⟩
  have e2 : bitLen (v / 2) = j + 1 := bitLen_eq (v / 2) j (by rw [Nat.pow_succ] at h2; omega) (by rw [Nat.pow_succ] at h3; omega) (by omega)
  have hx : ofX v = ofX (v / 2) + 1 := by unfold ofX; omega
  refine ⟨hx, ?_⟩
  unfold ofM
  rw [hx, Nat.div_div_eq_div_mul, Nat.pow_succ, Nat.mul_comm 2]
theorem of_end (v : Nat) (h : v < 262144) : ofX v = 0 ∧ ofM v = v := by
  have hb := bitLen_le v 18 (by omega) (by omega)
  have hx : ofX v = 0 := by unfold ofX; omega
  refine ⟨hx, ?_⟩
  unfold ofM
  rw [hx]
  simp
theorem val_over (x m i : Nat) (hm : m < 2 ^ 64) (hi : i < x) (h : 9223372036854775808 ≤ m * 2 ^ i) : 64 < bitLen m + x := by
  rcases Nat.lt_or_ge 64 (bitLen m + x) with q | q
  · exact q
  · exfalso
    have h1 := bitLen_lt m hm
    have h2 : m * 2 ^ i < 2 ^ bitLen m * 2 ^ i := Nat.mul_lt_mul_of_pos_right h1 (Nat.two_pow_pos _)
    rw [← Nat.pow_add] at h2
    have h3 : 2 ^ (bitLen m + i) ≤ 2 ^ 63 := Nat.pow_le_pow_right (by omega) (by omega)
    omega
theorem val_end (x m : Nat) (hm : m < 2 ^ 64) (hx : x ≤ 63) (h : m * 2 ^ x < 2 ^ 64) : ¬ 64 < bitLen m + x := by
  by_cases h0 : m = 0
  · subst h0
    have : bitLen 0 = 0 := rfl
    omega
  · obtain ⟨k, e, h2, h3⟩ := bitLen_form m hm h0
    intro q
    have h4 : 2 ^ k * 2 ^ x ≤ m * 2 ^ x := Nat.mul_le_mul_right _ h2
    rw [← Nat.pow_add] at h4
    have h5 : 2 ^ 64 ≤ 2 ^ (k + x) := Nat.pow_le_pow_right (by omega) (by omega)
    omega
end Go.Proofs.Ythepndimhiieiaa

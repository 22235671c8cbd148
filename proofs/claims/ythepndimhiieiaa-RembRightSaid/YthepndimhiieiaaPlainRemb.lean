/- Layer 17 in plain Lean: rates, numbers as rates. -/
import Derived.Lib.BitFns
namespace Go.Proofs.Ythepndimhiieiaa
open Go Go.Lib
theorem bitLen_eq (n k : Nat) (h0 : 2 ^ k ≤ n) (h1 : n < 2 ^ (k + 1)) (hn : n < 2 ^ 64) : bitLen n = k + 1 := by
  rw [bitLen_shift k n h0 hn]
  have : n / 2 ^ k = 1 := by
    rw [Nat.pow_succ] at h1
    exact (Nat.div_eq_iff (Nat.two_pow_pos k)).2 ⟨by omega, by omega⟩
  rw [this]
  rfl
theorem bitLen_zero : bitLen 0 = 0 := rfl
theorem bitLen_form (n : Nat) (hn : n < 2 ^ 64) (h : n ≠ 0) : ∃ k, bitLen n = k + 1 ∧ 2 ^ k ≤ n ∧ n < 2 ^ (k + 1) :=
  ⟨n.log2, bitLen_eq n n.log2 (Nat.log2_self_le h) Nat.lt_log2_self hn, Nat.log2_self_le h, Nat.lt_log2_self⟩
theorem bitLen_le (n k : Nat) (h : n < 2 ^ k) (hn : n < 2 ^ 64) : bitLen n ≤ k := by
  by_cases h0 : n = 0
  · subst h0; exact Nat.zero_le _
  · obtain ⟨j, e, h1, h2⟩ := bitLen_form n hn h0
    rw [e]
    exact (Nat.pow_lt_pow_iff_right (by omega : 1 < 2)).1 (Nat.lt_of_le_of_lt h1 h)
theorem bitLen_lt (n : Nat) (hn : n < 2 ^ 64) : n < 2 ^ bitLen n := by
  by_cases h0 : n = 0
  · subst h0; decide
  · obtain ⟨j, e, h1, h2⟩ := bitLen_form n hn h0
    rw [e]; exact h2
def rbRight (x : Int) (m n : Nat) : Bool := decide (0 ≤ x ∧ x ≤ 63 ∧ m < 262144 ∧ (x = 0 ∨ 131072 ≤ m) ∧ n ≤ 255)
def ofX (v : Nat) : Nat := bitLen v - 18
def ofM (v : Nat) : Nat := v / 2 ^ ofX v
def rbVal (x m n : Nat) : Nat := if rbRight x m n = true then (if 64 < bitLen m + x then 18446744073709551615 else m * 2 ^ x) else 0
def ofV (v : Nat) : Nat := ofM v * 2 ^ ofX v
theorem ofX_le (v : Nat) (hv : v < 2 ^ 64) : ofX v ≤ 46 := by have := bitLen_le v 64 hv hv; unfold ofX; omega
theorem ofM_lt (v : Nat) (hv : v < 2 ^ 64) : ofM v < 262144 := by
  have h := bitLen_lt v hv
  have : v < 2 ^ (18 + ofX v) := Nat.lt_of_lt_of_le h (Nat.pow_le_pow_right (by omega) (by unfold ofX; omega))
  rw [Nat.pow_add] at this
  exact (Nat.div_lt_iff_lt_mul (Nat.two_pow_pos _)).2 this
theorem ofM_ge (v : Nat) (hv : v < 2 ^ 64) (h : ofX v ≠ 0) : 131072 ≤ ofM v := by
  have h0 : v ≠ 0 := by rintro rfl; exact h rfl
  obtain ⟨k, e, h1, h2⟩ := bitLen_form v hv h0
  have hk : k = 17 + ofX v := by unfold ofX at h ⊢; omega
  rw [hk, Nat.pow_add] at h1
  exact (Nat.le_div_iff_mul_le (Nat.two_pow_pos _)).2 h1
theorem of_right (v : Nat) (hv : v < 2 ^ 64) : rbRight (ofX v : Nat) (ofM v) 0 = true := by
  have a := ofX_le v hv
  have b := ofM_lt v hv
  have c := ofM_ge v hv
  unfold rbRight
  exact decide_eq_true ⟨by omega, by omega, b, by omega, by omega⟩
theorem of_val (v : Nat) (hv : v < 2 ^ 64) : rbVal (ofX v) (ofM v) 0 = ofV v := by
  unfold rbVal ofV
  have a := ofX_le v hv
  have b := ofM_lt v hv
  have c := bitLen_le (ofM v) 18 b (by omega)
  rw [if_pos (of_right v hv), if_neg (by omega)]
theorem of_le (v : Nat) : ofV v ≤ v := Nat.div_mul_le_self _ _
theorem of_near (v : Nat) (hv : v < 2 ^ 64) : v - ofV v ≤ v / 131072 ∧ (v < 262144 → ofV v = v) := by
  by_cases h : ofX v = 0
  · have e : ofV v = v := by unfold ofV ofM; rw [h]; simp
    rw [e]; simp
  · have hm := ofM_ge v hv h
    have h1 : v % 2 ^ ofX v < 2 ^ ofX v := Nat.mod_lt _ (Nat.two_pow_pos _)
    have h2 : ofV v + v % 2 ^ ofX v = v := by unfold ofV ofM; rw [Nat.mul_comm]; exact Nat.div_add_mod _ _
    have h3 : 131072 * 2 ^ ofX v ≤ ofV v := Nat.mul_le_mul_right _ hm
    have h4 : 2 ^ ofX v ≤ v / 131072 := (Nat.le_div_iff_mul_le (by omega)).2 (by rw [Nat.mul_comm]; omega)
    have h5 : 2 ^ 1 ≤ 2 ^ ofX v := Nat.pow_le_pow_right (by omega) (by omega)
    exact ⟨by omega, fun h6 => by omega⟩
theorem of_mono (v w : Nat) (hv : v < 2 ^ 64) (hw : w < 2 ^ 64) (h : v ≤ w) : ofV v ≤ ofV w := by
  by_cases e : ofX v = ofX w
  · unfold ofV ofM
    rw [e]
    exact Nat.mul_le_mul_right _ (Nat.div_le_div_right h)
  · by_cases hlt : ofX v < ofX w
    · have hm := ofM_ge w hw (by omega)
      have h1 := bitLen_lt v hv
      have h2 : v < 2 ^ (17 + ofX w) := Nat.lt_of_lt_of_le h1 (Nat.pow_le_pow_right (by omega) (by unfold ofX at hlt ⊢; omega))
      rw [Nat.pow_add] at h2
      have h3 : 131072 * 2 ^ ofX w ≤ ofV w := Nat.mul_le_mul_right _ hm
      have h4 := of_le v
      omega
    · exfalso
      have hm := ofM_ge v hv (by omega)
      have h1 := bitLen_lt w hw
      have h2 : w < 2 ^ (17 + ofX v) := Nat.lt_of_lt_of_le h1 (Nat.pow_le_pow_right (by omega) (by unfold ofX at hlt e ⊢; omega))
      rw [Nat.pow_add] at h2
      have h3 : 131072 * 2 ^ ofX v ≤ ofV v := Nat.mul_le_mul_right _ hm
      have h4 := of_le v
      omega
theorem val_big (x m : Nat) (hr : rbRight x m 0 = true) (hx : 46 < x) : rbVal x m 0 = 18446744073709551615 := by
  have h := of_decide_eq_true hr
  have hb := bitLen_eq m 17 (by omega) (by omega) (by omega)
  unfold rbVal
  rw [if_pos hr, if_pos (by omega)]
theorem val_fits (x m : Nat) (hr : rbRight x m 0 = true) (hx : x ≤ 46) : rbVal x m 0 = m * 2 ^ x ∧ m * 2 ^ x < 2 ^ 64 ∧ ofX (m * 2 ^ x) = x ∧ ofM (m * 2 ^ x) = m := by
  have h := of_decide_eq_true hr
  have hb := bitLen_le m 18 (by omega) (by omega)
  have h1 : m * 2 ^ x < 2 ^ (18 + x) := by rw [Nat.pow_add]; exact Nat.mul_lt_mul_of_pos_right (by omega) (Nat.two_pow_pos _)
  have h2 : m * 2 ^ x < 2 ^ 64 := Nat.lt_of_lt_of_le h1 (Nat.pow_le_pow_right (by omega) (by omega))
  have h3 : ofX (m * 2 ^ x) = x := by
    by_cases h0 : x = 0
    · subst h0
      have := bitLen_le (m * 2 ^ 0) 18 (by simpa using h.2.2.1) h2
      unfold ofX; omega
    · have h4 : 2 ^ (17 + x) ≤ m * 2 ^ x := by rw [Nat.pow_add]; exact Nat.mul_le_mul_right _ (by omega)
      have := bitLen_eq (m * 2 ^ x) (17 + x) h4 (by rw [show 17 + x + 1 = 18 + x by omega]; exact h1) h2
      unfold ofX; omega
  refine ⟨?_, h2, h3, ?_⟩
  · unfold rbVal
    rw [if_pos hr, if_neg (by omega)]
  · unfold ofM
    rw [h3]
    exact Nat.mul_div_cancel _ (Nat.two_pow_pos _)
def lsD (x m : Nat) : Nat := min x (18 - bitLen m)
def lsX (x m : Nat) : Nat := if m = 0 then 0 else x - lsD x m
def lsM (x m : Nat) : Nat := if m = 0 then 0 else m * 2 ^ lsD x m
theorem lsD_le (x m : Nat) (hm : m < 262144) (h0 : m ≠ 0) : lsD x m ≤ 17 ∧ m * 2 ^ lsD x m < 262144 ∧ lsD x m ≤ x ∧ (x ≠ lsD x m → 131072 ≤ m * 2 ^ lsD x m) := by
  obtain ⟨k, e, h1, h2⟩ := bitLen_form m (by omega) h0
  have hb := bitLen_le m 18 hm (by omega)
  have hd : lsD x m ≤ 18 - bitLen m := Nat.min_le_right _ _
  have hm2 := bitLen_lt m (by omega)
  refine ⟨by omega, ?_, Nat.min_le_left _ _, fun hne => ?_⟩
  · calc m * 2 ^ lsD x m < 2 ^ bitLen m * 2 ^ lsD x m := Nat.mul_lt_mul_of_pos_right hm2 (Nat.two_pow_pos _)
      _ = 2 ^ (bitLen m + lsD x m) := by rw [Nat.pow_add]
      _ ≤ 2 ^ 18 := Nat.pow_le_pow_right (by omega) (by omega)
  · have he : lsD x m = 18 - bitLen m := by unfold lsD at hne ⊢; omega
    rw [he, e]
    calc 131072 = 2 ^ (k + (18 - (k + 1))) := by rw [show k + (18 - (k + 1)) = 17 by omega]
      _ = 2 ^ k * 2 ^ (18 - (k + 1)) := by rw [Nat.pow_add]
      _ ≤ m * 2 ^ (18 - (k + 1)) := Nat.mul_le_mul_right _ h1
theorem ls_val (x m : Nat) (hm : m < 262144) (hx : x ≤ 45) : rbVal (lsX x m) (lsM x m) 0 = m * 2 ^ x ∧ lsX x m ≤ x ∧ lsM x m < 262144 := by
  by_cases h0 : m = 0
  · subst h0
    have : bitLen 0 = 0 := rfl
    simp [lsX, lsM, rbVal, this]
  · obtain ⟨a, b, c, d⟩ := lsD_le x m hm h0
    have hr : rbRight (lsX x m : Nat) (lsM x m) 0 = true := decide_eq_true (by
      unfold lsX lsM
      rw [if_neg h0, if_neg h0]
      exact ⟨by omega, by omega, b, by omega, by omega⟩)
    have hf := (val_fits _ _ hr (by unfold lsX; rw [if_neg h0]; omega)).1
    refine ⟨?_, by unfold lsX; rw [if_neg h0]; omega, by unfold lsM; rw [if_neg h0]; exact b⟩
    rw [hf]
    unfold lsX lsM
    rw [if_neg h0, if_neg h0, Nat.mul_assoc, ← Nat.pow_add, show lsD x m + (x - lsD x m) = x by omega]
end Go.Proofs.Ythepndimhiieiaa

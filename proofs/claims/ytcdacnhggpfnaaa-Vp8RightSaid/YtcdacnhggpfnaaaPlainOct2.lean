/- Plain law of package octet: parts and joins; numbers and their bytes, back and forth. No program in sight. -/
import Derived.Test.YtcdacnhggpfnaaaPlainOct
namespace Go.Proofs.Ytcdacnhggpfnaaa

theorem partE_zero {len : Nat} {at_ n : Int} (h : partE len at_ n = 0) : 0 ≤ n ∧ 0 ≤ at_ ∧ at_ + n ≤ len := by
  unfold partE at h
  by_cases h1 : n < 0 ∨ at_ < 0
  · simp [h1] at h
  · rw [if_neg h1] at h
    by_cases h2 : (len : Int) < at_ + n
    · simp [h2] at h
    · omega
theorem partE_of {len : Nat} {at_ n : Int} (h1 : 0 ≤ n) (h2 : 0 ≤ at_) (h3 : at_ + n ≤ len) : partE len at_ n = 0 := by
  unfold partE
  rw [if_neg (by omega), if_neg (by omega)]
theorem partL_ok {l : List UInt8} {at_ n : Int} (h : partE l.length at_ n = 0) : partL l at_ n = (l.drop at_.toNat).take n.toNat := by unfold partL; rw [if_pos h]
theorem partL_fail {l : List UInt8} {at_ n : Int} (h : partE l.length at_ n ≠ 0) : partL l at_ n = [] := by unfold partL; rw [if_neg h]
theorem partL_length {l : List UInt8} {at_ n : Int} (h : partE l.length at_ n = 0) : (partL l at_ n).length = n.toNat := by
  obtain ⟨h1, h2, h3⟩ := partE_zero h
  rw [partL_ok h]
  simp
  omega
theorem part_join {l : List UInt8} {at_ n : Int} (h : partE l.length at_ n = 0) :
    partE l.length 0 at_ = 0 ∧ partE l.length (at_ + n) (l.length - at_ - n) = 0 ∧ cat [partL l 0 at_, partL l at_ n, partL l (at_ + n) (l.length - at_ - n)] = l := by
  obtain ⟨h1, h2, h3⟩ := partE_zero h
  have e1 : partE l.length 0 at_ = 0 := partE_of h2 (by omega) (by omega)
  have e2 : partE l.length (at_ + n) (l.length - at_ - n) = 0 := partE_of (by omega) (by omega) (by omega)
  refine ⟨e1, e2, ?_⟩
  rw [partL_ok h, partL_ok e1, partL_ok e2, cat_cons, cat_cons, cat_cons, cat_nil, List.append_nil, Int.toNat_zero, List.drop_zero]
  have e3 : (at_ + n).toNat = at_.toNat + n.toNat := by omega
  have e4 : (l.drop (at_ + n).toNat).take (l.length - at_ - n).toNat = (l.drop at_.toNat).drop n.toNat := by
    rw [List.take_of_length_le (by simp; omega), e3, List.drop_drop]
  rw [e4, List.take_append_drop, List.take_append_drop]
theorem part_part {l : List UInt8} {at_ n in_ m : Int} (h : partE l.length at_ n = 0) (k : partE (partL l at_ n).length in_ m = 0) :
    partE l.length (at_ + in_) m = 0 ∧ partL l (at_ + in_) m = partL (partL l at_ n) in_ m := by
  obtain ⟨h1, h2, h3⟩ := partE_zero h
  obtain ⟨k1, k2, k3⟩ := partE_zero k
  rw [partL_length h] at k3
  have e : partE l.length (at_ + in_) m = 0 := partE_of k1 (by omega) (by omega)
  refine ⟨e, ?_⟩
  rw [partL_ok e, partL_ok k, partL_ok h, List.drop_take, List.take_take, List.drop_drop]
  have e1 : (at_ + in_).toNat = at_.toNat + in_.toNat := by omega
  rw [e1]
  congr 1
  omega

theorem putE_zero {v : Nat} {n : Int} (h : putE v n = 0) : 1 ≤ n ∧ n ≤ 8 ∧ v < 256 ^ n.toNat := by
  unfold putE at h
  by_cases h1 : n < 1 ∨ 8 < n
  · simp [h1] at h
  · rw [if_neg h1] at h
    by_cases h2 : v < 256 ^ n.toNat
    · exact ⟨by omega, by omega, h2⟩
    · simp [h2] at h
theorem putE_of {v : Nat} {n : Int} (h1 : 1 ≤ n) (h2 : n ≤ 8) (h3 : v < 256 ^ n.toNat) : putE v n = 0 := by
  unfold putE
  rw [if_neg (by omega), if_pos h3]
theorem putL_ok {v : Nat} {n : Int} (h : putE v n = 0) : putL v n = be n.toNat v := by unfold putL; rw [if_pos h]
theorem putL_length {v : Nat} {n : Int} (h : putE v n = 0) : (putL v n).length = n.toNat := by rw [putL_ok h, be_length]
theorem put_get {v : Nat} {n : Int} (b c : List UInt8) (h : putE v n = 0) : getE (b ++ putL v n ++ c).length b.length n = 0 ∧ getV (b ++ putL v n ++ c) b.length n = v := by
  obtain ⟨h1, h2, h3⟩ := putE_zero h
  have hl := putL_length h
  have hg : getE (b ++ putL v n ++ c).length b.length n = 0 := getE_of h1 h2 (by omega) (by simp [hl]; omega)
  refine ⟨hg, ?_⟩
  unfold getV
  rw [if_pos hg, Int.toNat_natCast, List.append_assoc, List.drop_left, List.take_left' hl, putL_ok h, val_be, Nat.mod_eq_of_lt h3]
theorem put_inj {v u : Nat} {n : Int} (h : putE v n = 0) (k : putE u n = 0) : (putL v n == putL u n) = (v == u) := by
  obtain ⟨h1, h2, h3⟩ := putE_zero h
  obtain ⟨k1, k2, k3⟩ := putE_zero k
  by_cases e : v = u
  · subst e
    simp
  · rw [beq_eq_false_iff_ne.2 e]
    refine beq_eq_false_iff_ne.2 fun hh => e ?_
    rw [putL_ok h, putL_ok k] at hh
    exact be_inj h3 k3 hh
theorem psE_zero {v : Int} {n : Int} (h : psE v n = 0) : 1 ≤ n ∧ n ≤ 8 ∧ sfits n.toNat v := by
  unfold psE at h
  by_cases h1 : n < 1 ∨ 8 < n
  · simp [h1] at h
  · rw [if_neg h1] at h
    by_cases h2 : sfits n.toNat v
    · exact ⟨by omega, by omega, h2⟩
    · simp [h2] at h
theorem psE_of {v : Int} {n : Int} (h1 : 1 ≤ n) (h2 : n ≤ 8) (h3 : sfits n.toNat v) : psE v n = 0 := by
  unfold psE
  rw [if_neg (by omega), if_pos h3]
theorem psL_ok {v : Int} {n : Int} (h : psE v n = 0) : psL v n = be n.toNat (suns n.toNat v) := by unfold psL; rw [if_pos h]
theorem psL_length {v : Int} {n : Int} (h : psE v n = 0) : (psL v n).length = n.toNat := by rw [psL_ok h, be_length]
theorem ps_get {v : Int} {n : Int} (b : List UInt8) (h : psE v n = 0) : getE (b ++ psL v n).length b.length n = 0 ∧ sgV (b ++ psL v n) b.length n = v := by
  obtain ⟨h1, h2, h3⟩ := psE_zero h
  have hl := psL_length h
  have hg : getE (b ++ psL v n).length b.length n = 0 := getE_of h1 h2 (by omega) (by simp [hl]; omega)
  refine ⟨hg, ?_⟩
  unfold sgV
  rw [if_pos hg, Int.toNat_natCast, List.drop_left, List.take_of_length_le (by omega), psL_ok h, val_be, Nat.mod_eq_of_lt (suns_lt _ _ (by omega) (by omega)), sval_suns _ _ (by omega) (by omega) h3]
theorem get_put {l : List UInt8} {at_ n : Int} (h : getE l.length at_ n = 0) :
    partE l.length at_ n = 0 ∧ putE (getV l at_ n) n = 0 ∧ putL (getV l at_ n) n = partL l at_ n ∧ psE (sgV l at_ n) n = 0 ∧ psL (sgV l at_ n) n = partL l at_ n := by
  obtain ⟨h1, h2, h3, h4⟩ := getE_zero h
  have e1 : partE l.length at_ n = 0 := partE_of (by omega) h3 h4
  have hl : ((l.drop at_.toNat).take n.toNat).length = n.toNat := by simp; omega
  have hv := val_lt ((l.drop at_.toNat).take n.toNat)
  have hb := be_val ((l.drop at_.toNat).take n.toNat)
  rw [hl] at hv hb
  have e2 : putE (getV l at_ n) n = 0 := putE_of h1 h2 (getV_lt h)
  obtain ⟨s1, s2⟩ := suns_sval n.toNat _ (by omega) (by omega) hv
  have e3 : psE (sgV l at_ n) n = 0 := by
    unfold sgV
    rw [if_pos h]
    exact psE_of h1 h2 s1
  refine ⟨e1, e2, ?_, e3, ?_⟩
  · rw [putL_ok e2, partL_ok e1]
    unfold getV
    rw [if_pos h, hb]
  · rw [psL_ok e3, partL_ok e1]
    unfold sgV
    rw [if_pos h, s2, hb]
theorem sgV_range {l : List UInt8} {at_ n : Int} (h : getE l.length at_ n = 0) : -9223372036854775808 ≤ sgV l at_ n ∧ sgV l at_ n ≤ 9223372036854775807 := by
  obtain ⟨h1, h2, h3, h4⟩ := getE_zero h
  have hl : ((l.drop at_.toNat).take n.toNat).length = n.toNat := by simp; omega
  have hv := val_lt ((l.drop at_.toNat).take n.toNat)
  rw [hl] at hv
  unfold sgV
  rw [if_pos h]
  exact sval_range _ _ (by omega) (by omega) hv
theorem get_fail {l : List UInt8} {at_ n : Int} (h : getE l.length at_ n ≠ 0) : getV l at_ n = 0 ∧ sgV l at_ n = 0 := by
  unfold getV sgV
  rw [if_neg h, if_neg h]
  exact ⟨rfl, rfl⟩
end Go.Proofs.Ytcdacnhggpfnaaa

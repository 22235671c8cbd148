/- Plain law of package octet: what is set is there, nothing else is otherwise; parts and joins. No program in sight. -/
import Derived.Test.YtcdacnhggpfnaaaPlain
namespace Go.Proofs.Ytcdacnhggpfnaaa

/-- The error of a read at a place. -/
def getE (len : Nat) (at_ n : Int) : Int := if n < 1 ∨ 8 < n ∨ at_ < 0 then 1 else if (len : Int) < at_ + n then 2 else 0
def getV (l : List UInt8) (at_ n : Int) : Nat := if getE l.length at_ n = 0 then val ((l.drop at_.toNat).take n.toNat) else 0
def sgV (l : List UInt8) (at_ n : Int) : Int := if getE l.length at_ n = 0 then sval n.toNat (val ((l.drop at_.toNat).take n.toNat)) else 0
/-- The error of a number that is put. -/
def putE (v : Nat) (n : Int) : Int := if n < 1 ∨ 8 < n then 1 else if v < 256 ^ n.toNat then 0 else 6
def putL (v : Nat) (n : Int) : List UInt8 := if putE v n = 0 then be n.toNat v else []
open Classical in
noncomputable def psE (v : Int) (n : Int) : Int := if n < 1 ∨ 8 < n then 1 else if sfits n.toNat v then 0 else 6
noncomputable def psL (v : Int) (n : Int) : List UInt8 := if psE v n = 0 then be n.toNat (suns n.toNat v) else []
/-- Bytes in the place of as many others. -/
def splice (l : List UInt8) (at_ : Nat) (b : List UInt8) : List UInt8 := l.take at_ ++ b ++ l.drop (at_ + b.length)
def setE (len : Nat) (at_ n : Int) (v : Nat) : Int := if putE v n ≠ 0 then putE v n else if at_ < 0 then 1 else if (len : Int) < at_ + n then 2 else 0
def setL (l : List UInt8) (at_ n : Int) (v : Nat) : List UInt8 := if setE l.length at_ n v = 0 then splice l at_.toNat (be n.toNat v) else []
def partE (len : Nat) (at_ n : Int) : Int := if n < 0 ∨ at_ < 0 then 1 else if (len : Int) < at_ + n then 2 else 0
def partL (l : List UInt8) (at_ n : Int) : List UInt8 := if partE l.length at_ n = 0 then (l.drop at_.toNat).take n.toNat else []

theorem splice_length (l : List UInt8) (at_ : Nat) (b : List UInt8) (h : at_ + b.length ≤ l.length) : (splice l at_ b).length = l.length := by
  unfold splice
  simp
  omega
theorem splice_get (l : List UInt8) (at_ : Nat) (b : List UInt8) (h : at_ + b.length ≤ l.length) (i : Nat) : (splice l at_ b)[i]? = if at_ ≤ i ∧ i < at_ + b.length then b[i - at_]? else l[i]? := by
  unfold splice
  have h1 : (l.take at_).length = at_ := by simp; omega
  rcases Nat.lt_or_ge i at_ with h2 | h2
  · rw [if_neg (by omega), List.append_assoc, List.getElem?_append_left (by omega), List.getElem?_take, if_pos h2]
  · rw [List.append_assoc, List.getElem?_append_right (by omega), h1]
    rcases Nat.lt_or_ge i (at_ + b.length) with h3 | h3
    · rw [if_pos ⟨h2, h3⟩, List.getElem?_append_left (by omega)]
    · rw [if_neg (by omega), List.getElem?_append_right (by omega), List.getElem?_drop]
      congr 1
      omega
theorem splice_at (l : List UInt8) (at_ : Nat) (b : List UInt8) (h : at_ + b.length ≤ l.length) : ((splice l at_ b).drop at_).take b.length = b := by
  apply List.ext_getElem?
  intro i
  rw [List.getElem?_take, List.getElem?_drop, splice_get l at_ b h]
  by_cases hi : i < b.length
  · rw [if_pos hi, if_pos (by omega)]
    congr 1
    omega
  · rw [if_neg hi, List.getElem?_eq_none (by omega)]
theorem splice_splice (l : List UInt8) (at_ : Nat) (b c : List UInt8) (h : at_ + b.length ≤ l.length) (hc : c.length = b.length) : splice (splice l at_ b) at_ c = splice l at_ c := by
  apply List.ext_getElem?
  intro i
  rw [splice_get _ _ _ (by rw [splice_length _ _ _ h]; omega), splice_get _ _ _ h, splice_get _ _ _ (by omega)]
  by_cases hi : at_ ≤ i ∧ i < at_ + c.length
  · rw [if_pos hi, if_pos hi]
  · rw [if_neg hi, if_neg hi, if_neg (by omega)]
theorem splice_same (l : List UInt8) (at_ n : Nat) (h : at_ + n ≤ l.length) : splice l at_ ((l.drop at_).take n) = l := by
  have hl : ((l.drop at_).take n).length = n := by simp; omega
  apply List.ext_getElem?
  intro i
  rw [splice_get _ _ _ (by omega), hl]
  by_cases hi : at_ ≤ i ∧ i < at_ + n
  · rw [if_pos hi, List.getElem?_take, if_pos (by omega), List.getElem?_drop]
    congr 1
    omega
  · rw [if_neg hi]
theorem splice_comm (l : List UInt8) (a b : Nat) (x y : List UInt8) (ha : a + x.length ≤ l.length) (hb : b + y.length ≤ l.length) (h : a + x.length ≤ b ∨ b + y.length ≤ a) :
    splice (splice l a x) b y = splice (splice l b y) a x := by
  apply List.ext_getElem?
  intro i
  rw [splice_get _ _ _ (by rw [splice_length _ _ _ ha]; omega), splice_get _ _ _ ha, splice_get _ _ _ (by rw [splice_length _ _ _ hb]; omega), splice_get _ _ _ hb]
  by_cases h1 : b ≤ i ∧ i < b + y.length
  · rw [if_pos h1, if_neg (by omega), if_pos h1]
  · rw [if_neg h1, if_neg h1]

/-- What it takes to set. -/
theorem setE_zero {len : Nat} {at_ n : Int} {v : Nat} (h : setE len at_ n v = 0) : 1 ≤ n ∧ n ≤ 8 ∧ v < 256 ^ n.toNat ∧ 0 ≤ at_ ∧ at_ + n ≤ len := by
  unfold setE putE at h
  by_cases h1 : n < 1 ∨ 8 < n
  · simp [h1] at h
  · rw [if_neg h1] at h
    by_cases h2 : v < 256 ^ n.toNat
    · rw [if_pos h2] at h
      by_cases h3 : at_ < 0
      · simp [h3] at h
      · rw [if_neg h3] at h
        by_cases h4 : (len : Int) < at_ + n
        · simp [h4] at h
        · exact ⟨by omega, by omega, h2, by omega, by omega⟩
    · simp [h2] at h
theorem setE_of {len : Nat} {at_ n : Int} {v : Nat} (h1 : 1 ≤ n) (h2 : n ≤ 8) (h3 : v < 256 ^ n.toNat) (h4 : 0 ≤ at_) (h5 : at_ + n ≤ len) : setE len at_ n v = 0 := by
  unfold setE putE
  rw [if_neg (show ¬(n < 1 ∨ 8 < n) by omega), if_pos h3]
  simp
  rw [if_neg (by omega), if_neg (by omega)]
theorem getE_of {len : Nat} {at_ n : Int} (h1 : 1 ≤ n) (h2 : n ≤ 8) (h4 : 0 ≤ at_) (h5 : at_ + n ≤ len) : getE len at_ n = 0 := by
  unfold getE
  rw [if_neg (by omega), if_neg (by omega)]
theorem getE_zero {len : Nat} {at_ n : Int} (h : getE len at_ n = 0) : 1 ≤ n ∧ n ≤ 8 ∧ 0 ≤ at_ ∧ at_ + n ≤ len := by
  unfold getE at h
  by_cases h1 : n < 1 ∨ 8 < n ∨ at_ < 0
  · simp [h1] at h
  · rw [if_neg h1] at h
    by_cases h2 : (len : Int) < at_ + n
    · simp [h2] at h
    · omega
theorem setL_length {l : List UInt8} {at_ n : Int} {v : Nat} (h : setE l.length at_ n v = 0) : (setL l at_ n v).length = l.length := by
  obtain ⟨h1, h2, h3, h4, h5⟩ := setE_zero h
  unfold setL
  rw [if_pos h, splice_length _ _ _ (by rw [be_length]; omega)]
theorem setL_fail {l : List UInt8} {at_ n : Int} {v : Nat} (h : setE l.length at_ n v ≠ 0) : setL l at_ n v = [] := by
  unfold setL
  rw [if_neg h]
theorem set_get {l : List UInt8} {at_ n : Int} {v : Nat} (h : setE l.length at_ n v = 0) : getE (setL l at_ n v).length at_ n = 0 ∧ getV (setL l at_ n v) at_ n = v := by
  obtain ⟨h1, h2, h3, h4, h5⟩ := setE_zero h
  have hg : getE (setL l at_ n v).length at_ n = 0 := by rw [setL_length h]; exact getE_of h1 h2 h4 h5
  refine ⟨hg, ?_⟩
  unfold getV
  rw [if_pos hg]
  unfold setL
  rw [if_pos h]
  have := splice_at l at_.toNat (be n.toNat v) (by rw [be_length]; omega)
  rw [be_length] at this
  rw [this, val_be, Nat.mod_eq_of_lt h3]
theorem getV_lt {l : List UInt8} {at_ n : Int} (h : getE l.length at_ n = 0) : getV l at_ n < 256 ^ n.toNat := by
  obtain ⟨h1, h2, h4, h5⟩ := getE_zero h
  unfold getV
  rw [if_pos h]
  have hv := val_lt ((l.drop at_.toNat).take n.toNat)
  rwa [show ((l.drop at_.toNat).take n.toNat).length = n.toNat by simp; omega] at hv
theorem set_back {l : List UInt8} {at_ n : Int} {v : Nat} (h : setE l.length at_ n v = 0) :
    getE l.length at_ n = 0 ∧ setE (setL l at_ n v).length at_ n (getV l at_ n) = 0 ∧ setL (setL l at_ n v) at_ n (getV l at_ n) = l := by
  obtain ⟨h1, h2, h3, h4, h5⟩ := setE_zero h
  have hg : getE l.length at_ n = 0 := getE_of h1 h2 h4 h5
  have hs : setE (setL l at_ n v).length at_ n (getV l at_ n) = 0 := by rw [setL_length h]; exact setE_of h1 h2 (getV_lt hg) h4 h5
  refine ⟨hg, hs, ?_⟩
  unfold setL at hs ⊢
  rw [if_pos hs, if_pos h]
  unfold getV
  rw [if_pos hg, splice_splice _ _ _ _ (by rw [be_length]; omega) (by rw [be_length, be_length])]
  have hl : ((l.drop at_.toNat).take n.toNat).length = n.toNat := by simp; omega
  have hb := be_val ((l.drop at_.toNat).take n.toNat)
  rw [hl] at hb
  rw [hb]
  exact splice_same _ _ _ (by omega)
theorem set_else {l : List UInt8} {at_ n : Int} {v : Nat} (h : setE l.length at_ n v = 0) (i : Nat) (hi : (i : Int) < at_ ∨ n ≤ (i : Int) - at_) : (setL l at_ n v)[i]? = l[i]? := by
  obtain ⟨h1, h2, h3, h4, h5⟩ := setE_zero h
  unfold setL
  rw [if_pos h, splice_get _ _ _ (by rw [be_length]; omega), be_length, if_neg (by omega)]
theorem set_comm {l : List UInt8} {at_ n too m : Int} {v u : Nat} (h : setE l.length at_ n v = 0) (k : setE l.length too m u = 0) (hd : ¬ (too < at_ + n ∧ at_ < too + m)) :
    setE (setL l too m u).length at_ n v = 0 ∧ setL (setL l at_ n v) too m u = setL (setL l too m u) at_ n v := by
  obtain ⟨h1, h2, h3, h4, h5⟩ := setE_zero h
  obtain ⟨k1, k2, k3, k4, k5⟩ := setE_zero k
  have ha : setE (setL l too m u).length at_ n v = 0 := by rw [setL_length k]; exact h
  have hb : setE (setL l at_ n v).length too m u = 0 := by rw [setL_length h]; exact k
  refine ⟨ha, ?_⟩
  unfold setL at ha hb ⊢
  rw [if_pos ha, if_pos hb, if_pos h, if_pos k]
  exact splice_comm _ _ _ _ _ (by rw [be_length]; omega) (by rw [be_length]; omega) (by rw [be_length, be_length]; omega)
end Go.Proofs.Ytcdacnhggpfnaaa

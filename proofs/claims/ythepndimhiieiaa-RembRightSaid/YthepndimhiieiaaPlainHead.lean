/- Plain law of the fixed header: its bytes, and which header bytes begin with. No program in sight. -/
import Derived.Test.YthepndimhiieiaaPlain
namespace Go.Proofs.Ythepndimhiieiaa
structure Hd where
  pad : Bool
  ext : Bool
  mark : Bool
  typ : Int
  seq : UInt16
  time : UInt32
  ssrc : UInt32
  csrc : List UInt32
def hZero : Hd := ⟨false, false, false, 0, 0, 0, 0, []⟩
def hRight (t : Int) (n : Nat) : Bool := decide (0 ≤ t ∧ t ≤ 127 ∧ n ≤ 15)
def hSame (a b : Hd) : Bool := a.pad == b.pad && a.ext == b.ext && a.mark == b.mark && a.typ == b.typ && a.seq == b.seq && a.time == b.time && a.ssrc == b.ssrc && a.csrc == b.csrc
theorem hSame_iff (a b : Hd) : hSame a b = true ↔ a = b := by
  obtain ⟨a1, a2, a3, a4, a5, a6, a7, a8⟩ := a
  obtain ⟨b1, b2, b3, b4, b5, b6, b7, b8⟩ := b
  simp [hSame, and_assoc]
theorem hSame_self (a : Hd) : hSame a a = true := (hSame_iff a a).2 rfl
def bit (b : Bool) (n : Nat) : Nat := if b then n else 0
def h0 (h : Hd) : Nat := 128 + bit h.pad 32 + bit h.ext 16 + h.csrc.length
def h1 (h : Hd) : Nat := bit h.mark 128 + h.typ.toNat
def cBe (l : List UInt32) : List UInt8 := l.flatMap fun x => be 4 x.toNat
def hFix (h : Hd) : List UInt8 := [UInt8.ofNat (h0 h), UInt8.ofNat (h1 h)] ++ be 2 h.seq.toNat ++ be 4 h.time.toNat ++ be 4 h.ssrc.toNat
def hBytes (h : Hd) : List UInt8 := hFix h ++ cBe h.csrc
theorem cBe_len (l : List UInt32) : (cBe l).length = 4 * l.length := by
  unfold cBe
  induction l with
  | nil => rfl
  | cons x l ih => rw [List.flatMap_cons, List.length_append, ih, be_length, List.length_cons]; omega
theorem cBe_take (l : List UInt32) (j : Nat) (h : j < l.length) : cBe (l.take (j + 1)) = cBe (l.take j) ++ be 4 l[j].toNat := by
  unfold cBe
  rw [List.take_succ_eq_append_getElem h, List.flatMap_append]
  simp
theorem hFix_len (h : Hd) : (hFix h).length = 12 := by unfold hFix; simp [be_length]
theorem hBytes_len (h : Hd) : (hBytes h).length = 12 + 4 * h.csrc.length := by unfold hBytes; rw [List.length_append, hFix_len, cBe_len]
/-- Numbers of four bytes each. -/
def cs : Nat → List UInt8 → List UInt32
  | 0, _ => []
  | k + 1, b => UInt32.ofNat (val (b.take 4)) :: cs k (b.drop 4)
theorem cs_len (k : Nat) (b : List UInt8) : (cs k b).length = k := by
  induction k generalizing b with
  | zero => rfl
  | succ k ih => rw [cs, List.length_cons, ih]
theorem cs_snoc (k : Nat) (b : List UInt8) : cs (k + 1) b = cs k b ++ [UInt32.ofNat (val ((b.drop (4 * k)).take 4))] := by
  induction k generalizing b with
  | zero => simp [cs]
  | succ k ih =>
    rw [cs, ih, cs, List.cons_append, List.drop_drop, show 4 + 4 * k = 4 * (k + 1) by omega]
theorem be4_mod (v : Nat) : (be 4 v) = be 4 (v % 4294967296) := by
  simp only [be]
  have h : ∀ a b : Nat, a % 256 = b % 256 → UInt8.ofNat a = UInt8.ofNat b := fun a b h => by
    apply UInt8.toNat_inj.1
    rw [UInt8.toNat_ofNat', UInt8.toNat_ofNat']
    exact h
  rw [h (v / 256 / 256 / 256) (v % 4294967296 / 256 / 256 / 256) (by omega), h (v / 256 / 256) (v % 4294967296 / 256 / 256) (by omega), h (v / 256) (v % 4294967296 / 256) (by omega), h v (v % 4294967296) (by omega)]
theorem be4_val (b : List UInt8) (h : b.length = 4) : be 4 (UInt32.ofNat (val b)).toNat = b := by
  have h1 := be_val b
  have h2 := val_lt b
  rw [h] at h1 h2
  rw [UInt32.toNat_ofNat', Nat.mod_eq_of_lt (by simpa using h2)]
  exact h1
theorem be2_val (b : List UInt8) (h : b.length = 2) : be 2 (UInt16.ofNat (val b)).toNat = b := by
  have h1 := be_val b
  have h2 := val_lt b
  rw [h] at h1 h2
  rw [UInt16.toNat_ofNat', Nat.mod_eq_of_lt (by simpa using h2)]
  exact h1
theorem val_be4 (x : UInt32) : UInt32.ofNat (val (be 4 x.toNat)) = x := by
  have := x.toNat_lt
  rw [val_be, Nat.mod_eq_of_lt (by simpa using this)]
  simp
theorem val_be2 (x : UInt16) : UInt16.ofNat (val (be 2 x.toNat)) = x := by
  have := x.toNat_lt
  rw [val_be, Nat.mod_eq_of_lt (by simpa using this)]
  simp
theorem cs_cBe (l : List UInt32) (r : List UInt8) : cs l.length (cBe l ++ r) = l := by
  induction l with
  | nil => rfl
  | cons x l ih =>
    rw [List.length_cons, cs, cBe, List.flatMap_cons, List.append_assoc, List.take_left' (be_length 4 _), List.drop_left' (be_length 4 _), val_be4]
    congr 1
theorem cBe_cs (k : Nat) (b : List UInt8) (h : 4 * k ≤ b.length) : cBe (cs k b) = b.take (4 * k) := by
  induction k generalizing b with
  | zero => rfl
  | succ k ih =>
    have h4 : (b.take 4).length = 4 := by rw [List.length_take]; omega
    rw [cs, cBe, List.flatMap_cons, be4_val _ h4]
    have h1 := ih (b.drop 4) (by rw [List.length_drop]; omega)
    unfold cBe at h1
    rw [h1, show 4 * (k + 1) = 4 + 4 * k by omega, List.take_add]
/-- The header that bytes begin with, whatever its parts are. -/
def hRaw (b : List UInt8) : Hd := ⟨decide ((b.getD 0 0).toNat / 32 % 2 = 1), decide ((b.getD 0 0).toNat / 16 % 2 = 1), decide (128 ≤ (b.getD 1 0).toNat), (((b.getD 1 0).toNat % 128 : Nat) : Int), UInt16.ofNat (val ((b.drop 2).take 2)), UInt32.ofNat (val ((b.drop 4).take 4)), UInt32.ofNat (val ((b.drop 8).take 4)), cs ((b.getD 0 0).toNat % 16) (b.drop 12)⟩
def hE (b : List UInt8) : Int := if b.length < 12 then 2 else if (b.getD 0 0).toNat / 64 ≠ 2 then 3 else if b.length < 12 + 4 * ((b.getD 0 0).toNat % 16) then 2 else 0
def hH (b : List UInt8) : Hd := if hE b = 0 then hRaw b else hZero
def hN (b : List UInt8) : Nat := if hE b = 0 then 12 + 4 * ((b.getD 0 0).toNat % 16) else 0
theorem bit_le (b : Bool) (n : Nat) : bit b n = 0 ∨ bit b n = n := by cases b <;> simp [bit]
theorem hRight_iff {t : Int} {n : Nat} : hRight t n = true ↔ 0 ≤ t ∧ t ≤ 127 ∧ n ≤ 15 := by unfold hRight; exact decide_eq_true_iff
/-- The first two bytes of a header that is right. -/
theorem h01 (h : Hd) (hr : hRight h.typ h.csrc.length = true) (r : List UInt8) : ((hBytes h ++ r).getD 0 0).toNat = h0 h ∧ ((hBytes h ++ r).getD 1 0).toNat = h1 h ∧ h0 h < 256 ∧ h1 h < 256 := by
  obtain ⟨a, b, c⟩ := hRight_iff.1 hr
  have e1 := bit_le h.pad 32
  have e2 := bit_le h.ext 16
  have e3 := bit_le h.mark 128
  have l0 : h0 h < 256 := by unfold h0; omega
  have l1 : h1 h < 256 := by unfold h1; omega
  refine ⟨?_, ?_, l0, l1⟩
  · simp [hBytes, hFix]; omega
  · simp [hBytes, hFix]; omega
theorem hE_bytes (h : Hd) (hr : hRight h.typ h.csrc.length = true) (r : List UInt8) : hE (hBytes h ++ r) = 0 ∧ hH (hBytes h ++ r) = h ∧ hN (hBytes h ++ r) = 12 + 4 * h.csrc.length := by
  obtain ⟨a, b, l0, l1⟩ := h01 h hr r
  obtain ⟨c1, c2, c3⟩ := hRight_iff.1 hr
  have hl := hBytes_len h
  have e1 := bit_le h.pad 32
  have e2 := bit_le h.ext 16
  have e3 := bit_le h.mark 128
  have hm : h0 h % 16 = h.csrc.length := by unfold h0; omega
  have hv : h0 h / 64 = 2 := by unfold h0; omega
  have hE0 : hE (hBytes h ++ r) = 0 := by
    unfold hE
    rw [a, hm, hv, List.length_append, hl, if_neg (by omega), if_neg (by omega), if_neg (by omega)]
  refine ⟨hE0, ?_, by unfold hN; rw [if_pos hE0, a, hm]⟩
  unfold hH
  rw [if_pos hE0]
  unfold hRaw
  rw [a, b, hm]
  have hd2 : ((hBytes h ++ r).drop 2).take 2 = be 2 h.seq.toNat := by simp [hBytes, hFix, be]
  have hd4 : ((hBytes h ++ r).drop 4).take 4 = be 4 h.time.toNat := by simp [hBytes, hFix, be]
  have hd8 : ((hBytes h ++ r).drop 8).take 4 = be 4 h.ssrc.toNat := by simp [hBytes, hFix, be]
  have hd12 : (hBytes h ++ r).drop 12 = cBe h.csrc ++ r := by simp [hBytes, hFix, be]
  rw [hd2, hd4, hd8, hd12, val_be2, val_be4, val_be4, cs_cBe]
  have p1 : decide (h0 h / 32 % 2 = 1) = h.pad := by unfold h0; cases h.pad <;> cases h.ext <;> simp [bit] <;> omega
  have p2 : decide (h0 h / 16 % 2 = 1) = h.ext := by unfold h0; cases h.pad <;> cases h.ext <;> simp [bit] <;> omega
  have p3 : decide (128 ≤ h1 h) = h.mark := by unfold h1; cases h.mark <;> simp [bit] <;> omega
  have p4 : ((h1 h % 128 : Nat) : Int) = h.typ := by unfold h1; omega
  rw [p1, p2, p3, p4]
theorem hE_cut (h : Hd) (hr : hRight h.typ h.csrc.length = true) (k : Nat) (hk : k < 12 + 4 * h.csrc.length) : hE ((hBytes h).take k) = 2 := by
  have hl := hBytes_len h
  have hlk : ((hBytes h).take k).length = k := by rw [List.length_take]; omega
  unfold hE
  rw [hlk]
  by_cases h12 : k < 12
  · rw [if_pos h12]
  · obtain ⟨a, _, _, _⟩ := h01 h hr []
    rw [List.append_nil] at a
    have hg : ((hBytes h).take k).getD 0 0 = (hBytes h).getD 0 0 := by
      rw [List.getD_eq_getElem?_getD, List.getD_eq_getElem?_getD, List.getElem?_take, if_pos (by omega)]
    obtain ⟨c1, c2, c3⟩ := hRight_iff.1 hr
    have e1 := bit_le h.pad 32
    have e2 := bit_le h.ext 16
    have hm : h0 h % 16 = h.csrc.length := by unfold h0; omega
    have hv : h0 h / 64 = 2 := by unfold h0; omega
    rw [hg, a, hm, hv, if_neg h12, if_neg (by omega), if_pos hk]
theorem hFix_raw (b : List UInt8) (h : 12 ≤ b.length) (hv : (b.getD 0 0).toNat / 64 = 2) : hFix (hRaw b) = b.take 12 := by
  match b, h with
  | x0 :: x1 :: x2 :: x3 :: x4 :: x5 :: x6 :: x7 :: x8 :: x9 :: x10 :: x11 :: r, _ =>
    unfold hFix
    have b2 := be2_val [x2, x3] rfl
    have b4 := be4_val [x4, x5, x6, x7] rfl
    have b8 := be4_val [x8, x9, x10, x11] rfl
    have q0 := x0.toNat_lt
    have q1 := x1.toNat_lt
    have l0 : (hRaw (x0 :: x1 :: x2 :: x3 :: x4 :: x5 :: x6 :: x7 :: x8 :: x9 :: x10 :: x11 :: r)).csrc.length = x0.toNat % 16 := by simp [hRaw, cs_len]
    have e0 : h0 (hRaw (x0 :: x1 :: x2 :: x3 :: x4 :: x5 :: x6 :: x7 :: x8 :: x9 :: x10 :: x11 :: r)) = x0.toNat := by
      unfold h0
      rw [l0]
      simp at hv
      simp only [hRaw, bit, List.getD_cons_zero, decide_eq_true_eq]
      split <;> split <;> omega
    have e1 : h1 (hRaw (x0 :: x1 :: x2 :: x3 :: x4 :: x5 :: x6 :: x7 :: x8 :: x9 :: x10 :: x11 :: r)) = x1.toNat := by
      unfold h1
      simp only [hRaw, bit, List.getD_cons_zero, List.getD_cons_succ, decide_eq_true_eq]
      split <;> omega
    rw [e0, e1]
    simp only [hRaw, List.drop_succ_cons, List.drop_zero, List.take_succ_cons, List.take_zero]
    rw [b2, b4, b8]
    simp
theorem hE_back (b : List UInt8) (h : hE b = 0) : hRight (hH b).typ (hH b).csrc.length = true ∧ hBytes (hH b) = b.take (hN b) ∧ 12 ≤ hN b ∧ hN b ≤ b.length ∧ hN b = 12 + 4 * (hH b).csrc.length := by
  have h' := h
  unfold hE at h
  split at h
  · cases h
  split at h
  · cases h
  split at h
  · cases h
  rename_i g1 g2 g3
  have eH : hH b = hRaw b := by unfold hH; rw [if_pos h']
  have eN : hN b = 12 + 4 * ((b.getD 0 0).toNat % 16) := by unfold hN; rw [if_pos h']
  have eC : (hRaw b).csrc.length = (b.getD 0 0).toNat % 16 := by simp [hRaw, cs_len]
  rw [eH, eN]
  refine ⟨?_, ?_, by omega, by omega, by rw [eC]⟩
  · rw [eC]
    refine hRight_iff.2 ⟨?_, ?_, by omega⟩
    · show (0 : Int) ≤ (((b.getD 1 0).toNat % 128 : Nat) : Int); omega
    · show (((b.getD 1 0).toNat % 128 : Nat) : Int) ≤ 127; omega
  · unfold hBytes
    rw [hFix_raw b (by omega) (by omega), List.take_add]
    congr 1
    show cBe (cs ((b.getD 0 0).toNat % 16) (b.drop 12)) = _
    rw [cBe_cs _ _ (by rw [List.length_drop]; omega)]
theorem hBytes_inj (h k : Hd) (hr : hRight h.typ h.csrc.length = true) (kr : hRight k.typ k.csrc.length = true) : (hBytes h == hBytes k) = hSame h k := by
  rw [Bool.eq_iff_iff, hSame_iff, beq_iff_eq]
  refine ⟨fun e => ?_, fun e => by rw [e]⟩
  have a := (hE_bytes h hr []).2.1
  have b := (hE_bytes k kr []).2.1
  rw [List.append_nil] at a b
  rw [← a, ← b, e]
theorem hE_off (b : List UInt8) (h : hE b ≠ 0) : hH b = hZero ∧ hN b = 0 := by
  unfold hH hN
  rw [if_neg h, if_neg h]
  exact ⟨rfl, rfl⟩
theorem cs_range (k : Nat) (b : List UInt8) : (List.range k).map (fun i => UInt32.ofNat (val ((b.drop (4 * i)).take 4))) = cs k b := by
  induction k with
  | zero => rfl
  | succ k ih => rw [List.range_succ, List.map_append, ih, cs_snoc]; rfl
theorem cs_take (k : Nat) (b : List UInt8) : cs k (b.take (4 * k)) = cs k b := by
  induction k generalizing b with
  | zero => rfl
  | succ k ih =>
    rw [cs, cs, List.take_take, List.drop_take, show 4 * (k + 1) - 4 = 4 * k by omega, ih, show min 4 (4 * (k + 1)) = 4 by omega]
end Go.Proofs.Ythepndimhiieiaa

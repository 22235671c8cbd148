/- Plain law of CommonBack. No program in sight. -/
import Derived.Test.YthepndimhiieiaaPlainCom
namespace Go.Proofs.Ythepndimhiieiaa

theorem cB_parts {p : Bool} {c t s : Int} (h : cRight c t s = true) (r : List UInt8) :
    (cBytes p c t s).length = 4 ∧ b0 (cBytes p c t s ++ r) = 128 + c.toNat + padBit p ∧ b1 (cBytes p c t s ++ r) = t.toNat ∧ 256 * b2 (cBytes p c t s ++ r) + b3 (cBytes p c t s ++ r) = (s / 4 - 1).toNat := by
  unfold cRight at h
  have h := of_decide_eq_true h
  obtain ⟨v, hv⟩ : ∃ v, (s / 4 - 1).toNat = v := ⟨_, rfl⟩
  have hp : padBit p = 0 ∨ padBit p = 32 := by cases p <;> simp [padBit]
  have hbe : be 2 v = [UInt8.ofNat (v / 256), UInt8.ofNat v] := by simp [be]
  unfold cBytes
  rw [hv, hbe]
  have e0 : (UInt8.ofNat (128 + c.toNat + padBit p)).toNat = 128 + c.toNat + padBit p := by rw [UInt8.toNat_ofNat']; omega
  have e1 : (UInt8.ofNat t.toNat).toNat = t.toNat := by rw [UInt8.toNat_ofNat']; omega
  have e2 : (UInt8.ofNat (v / 256)).toNat = v / 256 := by rw [UInt8.toNat_ofNat']; omega
  have e3 : (UInt8.ofNat v).toNat = v % 256 := by rw [UInt8.toNat_ofNat']
  refine ⟨rfl, ?_, ?_, ?_⟩
  · simp only [b0, List.cons_append, List.getD_cons_zero, e0]
  · simp only [b1, List.cons_append, List.getD_cons_zero, List.getD_cons_succ, e1]
  · simp only [b2, b3, List.nil_append, List.cons_append, List.getD_cons_zero, List.getD_cons_succ, e2, e3]
    omega
theorem cB_inj {p q : Bool} {c t s c' t' s' : Int} (h : cRight c t s = true) (h' : cRight c' t' s' = true) : (cBytes p c t s == cBytes q c' t' s') = (p == q && c == c' && t == t' && s == s') := by
  obtain ⟨_, a0, a1, a2⟩ := cB_parts (p := p) h []
  obtain ⟨_, d0, d1, d2⟩ := cB_parts (p := q) h' []
  simp only [List.append_nil] at a0 a1 a2 d0 d1 d2
  rw [Bool.eq_iff_iff, beq_iff_eq]
  constructor
  · intro e
    rw [e] at a0 a1 a2
    unfold cRight at h h'
    have h := of_decide_eq_true h
    have h' := of_decide_eq_true h'
    have x1 : 128 + c.toNat + padBit p = 128 + c'.toNat + padBit q := a0.symm.trans d0
    have hpq : p = q := by
      cases p <;> cases q <;> simp [padBit] at x1 ⊢ <;> omega
    subst hpq
    simp
    omega
  · intro e
    simp at e
    obtain ⟨⟨⟨rfl, rfl⟩, rfl⟩, rfl⟩ := e
    rfl
theorem cB_read {p : Bool} {c t s : Int} (h : cRight c t s = true) (r : List UInt8) (hr : s ≤ ((4 + r.length : Nat) : Int)) :
    cE (cBytes p c t s ++ r) = 0 ∧ cP (cBytes p c t s ++ r) = p ∧ (cC (cBytes p c t s ++ r) : Int) = c ∧ (cT (cBytes p c t s ++ r) : Int) = t ∧ (cS (cBytes p c t s ++ r) : Int) = s := by
  obtain ⟨a, a0, a1, a2⟩ := cB_parts (p := p) h r
  unfold cRight at h
  have h := of_decide_eq_true h
  have hp : padBit p = cond p 32 0 := rfl
  have hE : cE (cBytes p c t s ++ r) = 0 := by
    unfold cE
    rw [List.length_append, a, a0, a2]
    rw [if_neg (by omega), if_neg (by cases p <;> simp at hp <;> omega), if_neg (by omega)]
  refine ⟨hE, ?_, ?_, ?_, ?_⟩
  · unfold cP
    rw [hE, a0]
    cases p <;> simp at hp ⊢ <;> omega
  · unfold cC
    rw [if_pos hE, a0]
    cases p <;> simp at hp <;> omega
  · unfold cT
    rw [if_pos hE, a1]
    omega
  · unfold cS
    rw [if_pos hE, a2]
    omega
theorem cE_off {b : List UInt8} (h : cE b ≠ 0) : cP b = false ∧ cC b = 0 ∧ cT b = 0 ∧ cS b = 0 := by
  unfold cP cC cT cS
  rw [if_neg h, if_neg h, if_neg h, decide_eq_false h]
  exact ⟨rfl, rfl, rfl, rfl⟩
theorem cB_less {p : Bool} {c t s : Int} (h : cRight c t s = true) (r : List UInt8) (hr : ((4 + r.length : Nat) : Int) < s) : cE (cBytes p c t s ++ r) = 4 := by
  obtain ⟨a, a0, a1, a2⟩ := cB_parts (p := p) h r
  unfold cRight at h
  have h := of_decide_eq_true h
  have hp : padBit p = cond p 32 0 := rfl
  unfold cE
  rw [List.length_append, a, a0, a2]
  rw [if_neg (by omega), if_neg (by cases p <;> simp at hp <;> omega), if_pos (by omega)]
/-- The header with zeros after it, cut to k bytes. -/
theorem cB_cut {p : Bool} {c t s : Int} (h : cRight c t s = true) (n k : Nat) (hn : s = ((4 + n : Nat) : Int)) (hk : k < 4 + n) : cE ((cBytes p c t s ++ List.replicate n 0).take k) = if k < 4 then 2 else 4 := by
  obtain ⟨a, _⟩ := cB_parts (p := p) h []
  by_cases hk4 : k < 4
  · rw [if_pos hk4]
    unfold cE
    rw [if_pos (by rw [List.length_take]; omega)]
  · rw [if_neg hk4, List.take_append, List.take_of_length_le (by omega), a]
    exact cB_less h _ (by rw [List.length_take, List.length_replicate]; omega)
theorem cBack {b : List UInt8} (h : cE b = 0) : cRight (cC b) (cT b) (cS b) = true ∧ cS b ≤ b.length ∧ cBytes (cP b) (cC b) (cT b) (cS b) = b.take 4 ∧ 4 ≤ b.length := by
  have h' := h
  unfold cE at h
  have q0 := b0_lt b
  have q1 := b1_lt b
  have q2 := b2_lt b
  have q3 := b3_lt b
  split at h
  · cases h
  · rename_i h4
    split at h
    · cases h
    · rename_i h3
      split at h
      · cases h
      · rename_i h2
        have eC : cC b = b0 b % 32 := by unfold cC; rw [if_pos h']
        have eT : cT b = b1 b := by unfold cT; rw [if_pos h']
        have eS : cS b = 4 * (256 * b2 b + b3 b + 1) := by unfold cS; rw [if_pos h']
        have eP : cP b = decide (160 ≤ b0 b) := by unfold cP; rw [h']; simp
        rw [eC, eT, eS, eP]
        refine ⟨?_, by omega, ?_, by omega⟩
        · unfold cRight
          rw [decide_eq_true_eq]
          omega
        · obtain ⟨x0, x1, x2, x3, r, rfl⟩ : ∃ x0 x1 x2 x3 r, b = x0 :: x1 :: x2 :: x3 :: r := by
            match b, h4 with
            | x0 :: x1 :: x2 :: x3 :: r, _ => exact ⟨x0, x1, x2, x3, r, rfl⟩
            | [], h => simp at h
            | [_], h => simp at h
            | [_, _], h => simp at h
            | [_, _, _], h => simp at h
          have w0 : b0 (x0 :: x1 :: x2 :: x3 :: r) = x0.toNat := rfl
          have w1 : b1 (x0 :: x1 :: x2 :: x3 :: r) = x1.toNat := rfl
          have w2 : b2 (x0 :: x1 :: x2 :: x3 :: r) = x2.toNat := rfl
          have w3 : b3 (x0 :: x1 :: x2 :: x3 :: r) = x3.toNat := rfl
          rw [w0, w1, w2, w3]
          rw [w0] at h3 q0
          have q1 : x1.toNat < 256 := q1
          have q2 : x2.toNat < 256 := q2
          have q3 : x3.toNat < 256 := q3
          clear w0 w1 w2 w3
          unfold cBytes
          have hv : (((4 * (256 * x2.toNat + x3.toNat + 1) : Nat) : Int) / 4 - 1).toNat = 256 * x2.toNat + x3.toNat := by omega
          have hbe : ∀ v, be 2 v = [UInt8.ofNat (v / 256), UInt8.ofNat v] := fun v => by simp [be]
          rw [hv, hbe]
          have f0 : 128 + ((x0.toNat % 32 : Nat) : Int).toNat + padBit (decide (160 ≤ x0.toNat)) = x0.toNat := by
            by_cases hx : 160 ≤ x0.toNat
            · rw [decide_eq_true hx]; simp only [padBit, cond_true]; omega
            · rw [decide_eq_false hx]; simp only [padBit, cond_false]; omega
          have f2 : UInt8.ofNat ((256 * x2.toNat + x3.toNat) / 256) = x2 := by
            rw [show (256 * x2.toNat + x3.toNat) / 256 = x2.toNat by omega]; simp
          have f3 : UInt8.ofNat (256 * x2.toNat + x3.toNat) = x3 := by
            apply UInt8.toNat_inj.1
            rw [UInt8.toNat_ofNat']; omega
          rw [f0, f2, f3]
          simp
end Go.Proofs.Ythepndimhiieiaa

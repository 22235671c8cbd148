/- Layer 11 in plain Lean: what was closed is opened as it was, and the other way round. No program in sight. -/
import Derived.Test.YthepndimhiieiaaPlainTrain2
namespace Go.Proofs.Ythepndimhiieiaa
theorem tlN_add (body : List UInt8) (t : Nat) (h0 : 0 < t) (h1 : t < 256) : tlN (body ++ tlBytes t) = t := by
  unfold tlN
  rw [List.length_append, tlBytes_len]
  have e : (body ++ tlBytes t) = (body ++ List.replicate (t - 1) 0) ++ [UInt8.ofNat t] := by
    unfold tlBytes
    rw [if_neg (by omega), List.append_assoc]
  have hl : (body ++ List.replicate (t - 1) (0 : UInt8)).length = body.length + t - 1 := by rw [List.length_append, List.length_replicate]; omega
  rw [e, List.getD_eq_getElem?_getD, List.getElem?_append_right (by omega), hl, Nat.sub_self]
  simp
  omega
theorem cl_ok {k c : Int} {n : Nat} {t : Int} (h : clOK k c n t = true) : (0 ≤ t ∧ t ≤ 252 ∧ t % 4 = 0 ∧ n % 4 = 0) ∧ cRight c k (4 + n + t) = true := by
  unfold clOK at h
  rw [Bool.and_eq_true, decide_eq_true_eq] at h
  exact h
theorem cl_len (k c : Int) (body : List UInt8) (t : Nat) (h : clOK k c body.length t = true) : (clBytes k c body t).length = 4 + body.length + t := by
  obtain ⟨_, hr⟩ := cl_ok h
  unfold clBytes
  rw [List.length_append, (cB_parts (p := decide (0 < t)) hr []).1, List.length_append, tlBytes_len]
  omega
theorem close_open (k c : Int) (body : List UInt8) (t : Nat) (h : clOK k c body.length t = true) : let y := clBytes k c body t; oE y = 0 ∧ oP y = decide (0 < t) ∧ (oC y : Int) = c ∧ (oT y : Int) = k ∧ oS y = 4 + body.length + t ∧ oN y = t ∧ oB y = body := by
  intro y
  have hyl : y.length = 4 + body.length + t := cl_len k c body t h
  obtain ⟨⟨h1, h2, h3, h4⟩, hr⟩ := cl_ok h
  have hcb := (cB_parts (p := decide (0 < t)) hr []).1
  obtain ⟨r0, r1, r2, r3, r4⟩ := cB_read (p := decide (0 < t)) hr (body ++ tlBytes t) (by rw [List.length_append, tlBytes_len]; omega)
  have hy : cBytes (decide (0 < t)) c k (4 + body.length + t) ++ (body ++ tlBytes t) = y := rfl
  rw [hy] at r0 r1 r2 r3 r4
  have hd : y.drop 4 = body ++ tlBytes t := by rw [← hy, List.drop_left' hcb]
  have hS : cS y = 4 + body.length + t := by omega
  have hE1 : oE y = trE (decide (0 < t)) (body ++ tlBytes t) := by
    unfold oE
    rw [if_neg (fun q => q r0), if_neg (by omega), r1, hd]
  have hV : trE (decide (0 < t)) (body ++ tlBytes t) = 0 ∧ trN (decide (0 < t)) (body ++ tlBytes t) = t := by
    by_cases h0 : 0 < t
    · have hN := tlN_add body t h0 (by omega)
      have hE : tlE (body ++ tlBytes t) = 0 := by
        unfold tlE
        rw [hN, List.length_append, tlBytes_len, if_neg (by omega)]
      have e : trE (decide (0 < t)) (body ++ tlBytes t) = 0 := by
        unfold trE
        rw [hE, hN, if_neg (by omega)]
      refine ⟨e, ?_⟩
      unfold trN
      rw [e, hN, if_pos ⟨decide_eq_true h0, rfl⟩]
    · rw [decide_eq_false h0]
      refine ⟨by unfold trE; simp, ?_⟩
      unfold trN
      rw [if_neg (by simp)]
      omega
  rw [hV.1] at hE1
  have hN : oN y = t := by unfold oN; rw [if_pos hE1, r1, hd]; exact hV.2
  refine ⟨hE1, ?_, ?_, ?_, ?_, hN, ?_⟩
  · unfold oP; rw [if_pos hE1]; exact r1
  · unfold oC; rw [if_pos hE1]; exact r2
  · unfold oT; rw [if_pos hE1]; exact r3
  · unfold oS; rw [if_pos hE1]; exact hS
  · unfold oB
    rw [if_pos hE1, hN, hd, hyl, show 4 + body.length + t - t - 4 = body.length by omega, List.take_left]
theorem open_parts (b : List UInt8) (h : oE b = 0) : cE b = 0 ∧ cS b = b.length ∧ 4 ≤ b.length ∧ oN b + 4 ≤ b.length ∧ oN b ≤ 252 ∧ oN b % 4 = 0 ∧ (oB b).length = b.length - oN b - 4 ∧ decide (0 < oN b) = cP b ∧ (0 < oN b → tlN (b.drop 4) = oN b) ∧ oB b = (b.drop 4).take (b.length - oN b - 4) := by
  have h' := h
  unfold oE at h
  split at h
  · contradiction
  · rename_i h0
    split at h
    · exact absurd h (by decide)
    · rename_i h1
      have h0 : cE b = 0 := Decidable.not_not.1 h0
      obtain ⟨_, h3, _, h4⟩ := cBack h0
      obtain ⟨n1, n2, n3, n4, n5⟩ := trN_ok h
      have e : oN b = trN (cP b) (b.drop 4) := by unfold oN; rw [if_pos h']
      rw [List.length_drop] at n1
      refine ⟨h0, by omega, h4, by omega, by omega, by omega, ?_, ?_, ?_, by unfold oB; rw [if_pos h']⟩
      · unfold oB
        rw [if_pos h', List.length_take, List.length_drop]
        omega
      · cases hP : cP b
        · exact decide_eq_false (by have := n4 hP; omega)
        · exact decide_eq_true (by have := (n3 hP).1; omega)
      · intro q
        cases hP : cP b
        · have := n4 hP; omega
        · have := (n3 hP).2; omega
def zerosIn (b : List UInt8) (i j : Nat) : Prop := ∀ k, i ≤ k → k < j → (b.getD k 0).toNat = 0
theorem open_close (b : List UInt8) (h : oE b = 0) : clOK (oT b) (oC b) (oB b).length (oN b) = true ∧ (clBytes (oT b) (oC b) (oB b) (oN b)).length = b.length ∧ (clBytes (oT b) (oC b) (oB b) (oN b) = b ↔ zerosIn b (b.length - oN b) (b.length - 1)) := by
  obtain ⟨h0, hS, h4, hN, hN2, hN3, hL, hP, hT, hB⟩ := open_parts b h
  obtain ⟨hr, _, hcb, _⟩ := cBack h0
  have hS4 := (cS_ge h0).2.2.2
  have eT : oT b = cT b := by unfold oT; rw [if_pos h]
  have eC : oC b = cC b := by unfold oC; rw [if_pos h]
  have hsz : (4 + ((oB b).length : Int) + (oN b : Int)) = (cS b : Int) := by omega
  have hok : clOK (oT b) (oC b) (oB b).length (oN b) = true := by
    unfold clOK
    rw [eT, eC, hsz, hr, decide_eq_true (by omega)]
    rfl
  refine ⟨hok, by rw [cl_len _ _ _ _ hok]; omega, ?_⟩
  have hcl : clBytes (oT b) (oC b) (oB b) (oN b) = b.take 4 ++ (oB b ++ tlBytes (oN b)) := by
    unfold clBytes
    rw [hP, eT, eC, hsz, hcb]
  have hsplit : b = b.take 4 ++ (oB b ++ b.drop (b.length - oN b)) := by
    rw [hB]
    have e : b.drop (b.length - oN b) = (b.drop 4).drop (b.length - oN b - 4) := by rw [List.drop_drop]; congr 1; omega
    rw [e, List.take_append_drop, List.take_append_drop]
  have hiff : clBytes (oT b) (oC b) (oB b) (oN b) = b ↔ tlBytes (oN b) = b.drop (b.length - oN b) := by
    constructor
    · intro q
      rw [hcl, hsplit] at q
      have q2 : b.take 4 ++ (oB b ++ tlBytes (oN b)) = b.take 4 ++ (oB b ++ b.drop (b.length - oN b)) := by
        rw [← hcl, ← hsplit]
        rw [hcl]
        rw [← hsplit] at q
        exact q
      exact List.append_cancel_left (List.append_cancel_left q2)
    · intro q
      rw [hcl, q]
      exact hsplit.symm
  rw [hiff]
  have hget : ∀ i, i < oN b → ((b.drop (b.length - oN b)).getD i 0) = b.getD (b.length - oN b + i) 0 := by
    intro i _
    simp only [List.getD_eq_getElem?_getD, List.getElem?_drop]
  constructor
  · intro q k k1 k2
    have hk := hget (k - (b.length - oN b)) (by omega)
    rw [← q, show b.length - oN b + (k - (b.length - oN b)) = k by omega] at hk
    rw [← hk]
    unfold tlBytes
    rw [if_neg (by omega), List.getD_eq_getElem?_getD, List.getElem?_append_left (by simp; omega)]
    rw [List.getElem?_replicate, if_pos (by omega)]
    rfl
  · intro q
    by_cases hz : oN b = 0
    · rw [hz]
      simp [tlBytes]
    · apply List.ext_getElem
      · rw [tlBytes_len, List.length_drop]; omega
      · intro i i1 i2
        rw [tlBytes_len] at i1
        have hg := hget i i1
        rw [List.getD_eq_getElem?_getD, List.getElem?_eq_getElem i2, Option.getD_some] at hg
        rw [hg]
        by_cases hi : i < oN b - 1
        · have hq := q (b.length - oN b + i) (by omega) (by omega)
          have hz0 : b.getD (b.length - oN b + i) 0 = 0 := UInt8.toNat_inj.1 hq
          rw [hz0]
          simp only [tlBytes, if_neg hz]
          rw [List.getElem_append_left (by simp; omega)]
          simp
        · have hi2 : i = oN b - 1 := by omega
          have hl := hT (by omega)
          unfold tlN at hl
          rw [List.length_drop] at hl
          simp only [List.getD_eq_getElem?_getD, List.getElem?_drop] at hl
          have hlast : b.getD (b.length - oN b + i) 0 = UInt8.ofNat (oN b) := by
            apply UInt8.toNat_inj.1
            rw [UInt8.toNat_ofNat', List.getD_eq_getElem?_getD, show b.length - oN b + i = 4 + (b.length - 4 - 1) by omega, hl]
            omega
          rw [hlast]
          simp only [tlBytes, if_neg hz]
          rw [List.getElem_append_right (by simp; omega)]
          simp
theorem open_bad {b : List UInt8} (h : oE b ≠ 0) : oP b = false ∧ oC b = 0 ∧ oT b = 0 ∧ oS b = 0 ∧ oN b = 0 ∧ oB b = [] := by
  unfold oP oC oT oS oN oB
  simp only [if_neg h]
  simp
theorem getD_take (b : List UInt8) (k i : Nat) (h : i < k) : (b.take k).getD i 0 = b.getD i 0 := by
  rw [List.getD_eq_getElem?_getD, List.getD_eq_getElem?_getD, List.getElem?_take, if_pos h]
theorem car_same {r : List UInt8} (h : cE r = 0) : oE (r.take (cS r)) = trE (cP r) ((r.take (cS r)).drop 4) := by
  obtain ⟨z1, z2, _, _⟩ := cS_ge h
  have hE := h
  have e0 : b0 (r.take (cS r)) = b0 r := by unfold b0; rw [getD_take _ _ _ (by omega)]
  have e2 : b2 (r.take (cS r)) = b2 r := by unfold b2; rw [getD_take _ _ _ (by omega)]
  have e3 : b3 (r.take (cS r)) = b3 r := by unfold b3; rw [getD_take _ _ _ (by omega)]
  have hl : (r.take (cS r)).length = cS r := by rw [List.length_take]; omega
  have hs : cS r = 4 * (256 * b2 r + b3 r + 1) := by unfold cS; rw [if_pos h]
  unfold cE at h
  split at h
  · cases h
  split at h
  · cases h
  rename_i q1 q2
  have hc : cE (r.take (cS r)) = 0 := by
    unfold cE
    rw [hl, e0, e2, e3, if_neg (by omega), if_neg q2, if_neg (by omega)]
  have hp : cP (r.take (cS r)) = cP r := by unfold cP; rw [hc, hE, e0]
  have hS : cS (r.take (cS r)) = cS r := by
    have hx : ∀ x, cE x = 0 → cS x = 4 * (256 * b2 x + b3 x + 1) := fun x h => by unfold cS; rw [if_pos h]
    have := hx _ hc
    rw [this, e2, e3]
    exact hs.symm
  unfold oE
  rw [if_neg (fun q => q hc), hS, hl, if_neg (by omega), hp]
end Go.Proofs.Ythepndimhiieiaa

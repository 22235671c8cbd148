/- train.Open, whatever the bytes are; train.Close: the walks. -/
import Derived.Test.YthepndimhiieiaaTrainB
namespace Go.Proofs.Ythepndimhiieiaa
open Go.RowKit
theorem oB_len (b : List UInt8) (h : oE b = 0) : oN b + 4 ≤ b.length ∧ (oB b).length = b.length - oN b - 4 := by
  have h' := h
  unfold oE at h
  split at h
  · contradiction
  · rename_i h0
    split at h
    · exact absurd h (by decide)
    · rename_i h1
      have h0 : cE b = 0 := Decidable.not_not.1 h0
      have h4 := (cBack h0).2.2.2
      have hv := (trN_ok h).1
      rw [List.length_drop] at hv
      have e : oN b = trN (cP b) (b.drop 4) := by unfold oN; rw [if_pos h']
      refine ⟨by omega, ?_⟩
      unfold oB
      rw [if_pos h', List.length_take, List.length_drop]
      omega
theorem topen_any (A : Option Addr) (n c : Nat) (b : List UInt8) (w : World) (hb : Bytes w A n c b) (hn : n ≤ 1000000) : Calls Try.prog 35 #[.slice A n c] w fun e w' => ∃ A' c', e = .returned (.tuple #[.agg #[.bool (oP b), .int .i64 (oC b), .int .i64 (oT b), .int .i64 (oS b)], .slice A' (oB b).length c', .int .i64 (oN b), .int .i64 (oE b)]) ∧ Bytes w' A' (oB b).length c' (oB b) ∧ Ext w w' := by
  have hlen := hb.len
  have hz : ∀ E : Int, oE b = E → E ≠ 0 → ∀ e w', (e = Ending.returned (.tuple #[.agg #[.bool false, .int .i64 0, .int .i64 0, .int .i64 0], .slice none 0 0, .int .i64 0, .int .i64 E]) ∧ Ext w w') → ∃ A' c', e = .returned (.tuple #[.agg #[.bool (oP b), .int .i64 (oC b), .int .i64 (oT b), .int .i64 (oS b)], .slice A' (oB b).length c', .int .i64 (oN b), .int .i64 (oE b)]) ∧ Bytes w' A' (oB b).length c' (oB b) ∧ Ext w w' := by
    rintro E hE0 hne e w' ⟨rfl, hX⟩
    have hne' : ¬ oE b = 0 := by rw [hE0]; exact hne
    have q1 : oP b = false := by unfold oP; rw [if_neg hne']
    have q2 : oC b = 0 := by unfold oC; rw [if_neg hne']
    have q3 : oT b = 0 := by unfold oT; rw [if_neg hne']
    have q4 : oS b = 0 := by unfold oS; rw [if_neg hne']
    have q5 : oB b = [] := by unfold oB; rw [if_neg hne']
    have q6 : oN b = 0 := by unfold oN; rw [if_neg hne']
    rw [q1, q2, q3, q4, q5, q6, hE0]
    exact ⟨none, 0, rfl, Bytes.nil _, hX⟩
  by_cases h0 : cE b = 0
  case neg =>
    refine (topen_no A n c b w hb (.inl h0)).mono fun e w' h => hz (cE b) (by unfold oE; rw [if_pos h0]) h0 e w' ?_
    rw [if_pos h0] at h
    exact h
  by_cases h1 : cS b < b.length
  · refine (topen_no A n c b w hb (.inr h1)).mono fun e w' h => hz 4 (by unfold oE; rw [if_neg (fun q => q h0), if_pos h1]) (by decide) e w' ?_
    rw [if_neg (fun q => q h0)] at h
    exact h
  have hE : oE b = trE (cP b) (b.drop 4) := by unfold oE; rw [if_neg (fun q => q h0), if_neg h1]
  by_cases h2 : trE (cP b) (b.drop 4) = 0
  · rw [h2] at hE
    obtain ⟨l1, l2⟩ := oB_len b hE
    have hN : oN b = trN (cP b) (b.drop 4) := by unfold oN; rw [if_pos hE]
    rw [hlen] at l1 l2
    have hB : oB b = (b.drop 4).take (n - oN b - 4) := by unfold oB; rw [if_pos hE, hlen]
    have q1 : oP b = cP b := by unfold oP; rw [if_pos hE]
    have q2 : oC b = cC b := by unfold oC; rw [if_pos hE]
    have q3 : oT b = cT b := by unfold oT; rw [if_pos hE]
    have q4 : oS b = cS b := by unfold oS; rw [if_pos hE]
    rw [l2, q1, q2, q3, q4, hE]
    exact topen_ok A n c b w hb hn h0 h1 (oN b) h2 hN.symm l1 (oB b) hB.symm
  · exact (topen_bad A n c b w hb h0 h1 _ rfl h2).mono fun e w' h => hz _ hE h2 e w' h
theorem topen_B (A : Option Addr) (n c : Nat) (b : List UInt8) (w : World) (hb : Bytes w A n c b) (hn : n ≤ 1000000) (P : Bool) (C T S V : Nat) (E : Int) (y : List UInt8) (N : Nat) (e1 : oP b = P) (e2 : oC b = C) (e3 : oT b = T) (e4 : oS b = S) (e5 : oN b = V) (e6 : oE b = E) (e7 : oB b = y) (e8 : y.length = N) : Calls Try.prog 35 #[.slice A n c] w fun e w' => ∃ A' c', e = .returned (.tuple #[.agg #[.bool P, .int .i64 C, .int .i64 T, .int .i64 S], .slice A' N c', .int .i64 V, .int .i64 E]) ∧ Bytes w' A' N c' y ∧ Ext w w' := by
  subst e1 e2 e3 e4 e5 e6 e7 e8
  exact topen_any A n c b w hb hn
set_option maxRecDepth 100000 in
set_option maxHeartbeats 2000000 in
theorem tclose_no (k ct t : Int) (A : Option Addr) (n c : Nat) (w : World) (hn : n ≤ 1000000) (h : clOK k ct n t = false) : Calls Try.prog 37 #[.int .i64 k, .int .i64 ct, .slice A n c, .int .i64 t] w fun e w' => e = .returned (.tuple #[.slice none 0 0, .int .i64 1]) ∧ Ext w w' := by
  have hcase : t < 0 ∨ (¬ t < 0 ∧ 252 < t) ∨ (¬ t < 0 ∧ ¬ 252 < t ∧ 0 < t % 4) ∨ (¬ t < 0 ∧ ¬ 252 < t ∧ ¬ 0 < t % 4 ∧ (0 : Int) < (n : Int) % 4) ∨ (¬ t < 0 ∧ ¬ 252 < t ∧ ¬ 0 < t % 4 ∧ ¬ (0 : Int) < (n : Int) % 4) := by omega
  rcases hcase with q1 | ⟨q1, q2⟩ | ⟨q1, q2, q3⟩ | ⟨q1, q2, q3, q4⟩ | ⟨q1, q2, q3, q4⟩
  · clear h
    go_enter Try.func37, Try.ntmps37
    go_wp2_with fail
    go_ret2
    exact ⟨rfl, Ext.refl _⟩
  · clear h
    go_enter Try.func37, Try.ntmps37
    go_wp2_with fail
    go_ret2
    exact ⟨rfl, Ext.refl _⟩
  · clear h
    go_enter Try.func37, Try.ntmps37
    go_wp2_with fail
    go_ret2
    exact ⟨rfl, Ext.refl _⟩
  · clear h
    go_enter Try.func37, Try.ntmps37
    go_wp2_with fail
    go_ret2
    exact ⟨rfl, Ext.refl _⟩
  · have h2 : cRight ct k (4 + n + t) = false := by
      unfold clOK at h
      rwa [decide_eq_true (by omega), Bool.true_and] at h
    have S := hide (fun W p => cwrite_no p ct k (4 + n + t) W h2)
    have j1 : IntKind.i64.wrap (4 + (n : Int)) = 4 + (n : Int) := IntWalk.i64_in _ (by omega)
    have j2 : IntKind.i64.wrap (4 + (n : Int) + t) = 4 + (n : Int) + t := IntWalk.i64_in _ (by omega)
    clear h h2
    go_enter Try.func37, Try.ntmps37
    go_wp2_with fail
    refine (S.out _ _).mono ?_
    rintro e w1 ⟨rfl, hE⟩
    go_wp2_with fail
    go_ret2
    exact ⟨rfl, hE⟩
set_option maxRecDepth 100000 in
set_option maxHeartbeats 2000000 in
theorem tclose_ok (k ct : Int) (t : Nat) (A : Option Addr) (n c : Nat) (body : List UInt8) (w : World) (hb : Bytes w A n c body) (h : clOK k ct n t = true) (y : List UInt8) (hy : clBytes k ct body t = y) : Calls Try.prog 37 #[.int .i64 k, .int .i64 ct, .slice A n c, .int .i64 t] w fun e w' => ∃ A' c', e = .returned (.tuple #[.slice A' (4 + n + t) c', .int .i64 0]) ∧ Bytes w' A' (4 + n + t) c' y ∧ Ext w w' := by
  have hlen := hb.len
  unfold clOK at h
  rw [Bool.and_eq_true, decide_eq_true_eq] at h
  obtain ⟨⟨q1, q2, q3, q4⟩, hr⟩ := h
  obtain ⟨_, _, _, _, _, r6, _⟩ := cRight_zero hr
  have S := fun W => cwrite_yes (decide (0 < t)) ct k (4 + n + t) W hr
  have hcb := (cB_parts (p := decide (0 < t)) hr []).1
  have j1 : IntKind.i64.wrap (4 + (n : Int)) = 4 + (n : Int) := IntWalk.i64_in _ (by omega)
  have j2 : IntKind.i64.wrap (4 + (n : Int) + (t : Int)) = 4 + (n : Int) + (t : Int) := IntWalk.i64_in _ (by omega)
  unfold clBytes at hy
  rw [hlen] at hy
  obtain ⟨H, hH⟩ : ∃ H, cBytes (decide (0 < t)) ct k (4 + n + t) = H := ⟨_, rfl⟩
  rw [hH] at S hcb hy
  have hj : cat [H, body] = H ++ body := by simp [cat]
  have hjl : (H ++ body).length = 4 + n := by rw [List.length_append, hcb, hlen]
  have HJ := hide (And.intro hj hjl)
  have g1 : ¬ (t : Int) < 0 := by omega
  have g2 : ¬ (252 : Int) < (t : Int) := by omega
  have g3 : ¬ (0 : Int) < (t : Int) % 4 := by omega
  have g4 : ¬ (0 : Int) < (n : Int) % 4 := by omega
  by_cases h0 : t = 0
  · subst h0
    obtain rfl : H ++ body = y := by rw [← hy]; simp [tlBytes]
    have e0 : (4 + (n : Int) + ((0 : Nat) : Int)) = 4 + (n : Int) := by omega
    have e1 : decide (0 < 0) = false := rfl
    rw [e0, e1] at S
    have S := hide S
    clear hr hcb hj hjl hH hy q1 q2 q3 q4 hlen e0 e1
    go_enter Try.func37, Try.ntmps37
    go_wp2_with fail
    refine (S.out _).mono ?_
    rintro e w1 ⟨A2, c2, rfl, hB2, hE⟩
    replace hb := hb.ext hE
    go_wp2_with fail
    have hSl := Slices.lit (w := w1) (vs := [.slice A2 4 c2, .slice A n c]) (ls := [H, body]) 25 2 rfl (by omega) ⟨hB2, hb, trivial⟩
    refine (joinx_B _ _ _ _ _ hSl (4 + n) (H ++ body) HJ.out.1 HJ.out.2 (by omega)).mono ?_
    rintro e w2 ⟨A3, c3, rfl, hB, hE2⟩
    go_wp2_with fail
    go_ret2
    exact ⟨A3, c3, rfl, hB, (hE.alloc _).trans hE2⟩
  · have g5 : (0 : Int) < (t : Int) := by omega
    have PA := hide (fun W A c h => padd_ok A (4 + n) c (H ++ body) t (by omega) (by omega) (by omega) W h y (by rw [← hy]; simp))
    have S := hide S
    clear hr hcb hj hjl hH hy q1 q2 q3 q4 hlen
    go_enter Try.func37, Try.ntmps37
    go_wp2_with fail
    refine (S.out _).mono ?_
    rintro e w1 ⟨A2, c2, rfl, hB2, hE⟩
    replace hb := hb.ext hE
    go_wp2_with fail
    have hSl := Slices.lit (w := w1) (vs := [.slice A2 4 c2, .slice A n c]) (ls := [H, body]) 25 2 rfl (by omega) ⟨hB2, hb, trivial⟩
    refine (joinx_B _ _ _ _ _ hSl (4 + n) (H ++ body) HJ.out.1 HJ.out.2 (by omega)).mono ?_
    rintro e w2 ⟨A3, c3, rfl, hB, hE2⟩
    go_wp2_with fail
    refine (PA.out _ _ _ hB).mono ?_
    rintro e w3 ⟨A4, c4, rfl, hB4, hE3⟩
    go_wp2_with fail
    go_ret2
    exact ⟨A4, c4, rfl, hB4, ((hE.alloc _).trans hE2).trans hE3⟩
end Go.Proofs.Ythepndimhiieiaa

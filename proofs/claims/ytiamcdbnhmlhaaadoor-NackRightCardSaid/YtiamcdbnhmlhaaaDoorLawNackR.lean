/- NackRight: the walk. -/
import Derived.Test.YtiamcdbnhmlhaaaDoorNackAwake
namespace Go.Proofs.YtiamcdbnhmlhaaaDoor
open Go.RowKit
set_option maxRecDepth 100000 in
set_option maxHeartbeats 2000000 in
theorem law_nackright (A : Option Addr) (n c : Nat) (l : List Pr) (A2 : Option Addr) (n2 c2 : Nat) (s : List UInt16) (A3 : Option Addr) (n3 c3 : Nat) (b : List UInt8) (w : World) (ht : Tab w) (h : Els ePr w A n c l) (h2 : Els e16 w A2 n2 c2 s) (h3 : Bytes w A3 n3 c3 b) :
    Calls Tryd.prog 3 #[.slice A n c, .slice A2 n2 c2, .slice A3 n3 c3] w fun e w' => e = .returned (.bool true) ∧ Ext w w' := by
  by_cases hbig : 3000 < n ∨ 3000 < n2 ∨ 70000 < n3
  · go_enter Tryd.func3, Tryd.ntmps3
    go_wp2_with fail
    refine (awake15 _ ht).mono ?_
    rintro e w1 ⟨rfl, hE⟩
    have hb : (decide (3000 < (n : Int)) || decide (3000 < (n2 : Int)) || decide (70000 < (n3 : Int))) = true := by simp; omega
    by_cases k1 : 3000 < n
    · go_wp2_with fail
      go_ret
      exact ⟨rfl, hE⟩
    · by_cases k2 : 3000 < n2
      · go_wp2_with fail
        go_ret
        exact ⟨rfl, hE⟩
      · have k3 : 70000 < n3 := by omega
        go_wp2_with fail
        go_ret
        exact ⟨rfl, hE⟩
  · have k1 : ¬ 3000 < n := by omega
    have k2 : ¬ 3000 < n2 := by omega
    have k3 : ¬ 70000 < n3 := by omega
    clear hbig
    obtain ⟨t, et⟩ : ∃ t, tells l = t := ⟨_, rfl⟩
    obtain ⟨p, ep⟩ : ∃ t, pairs s = t := ⟨_, rfl⟩
    have S1 := hide (fun W c A h ht => seqs_B A n c l W h (by omega) ht t et)
    have S2 := hide (fun W c A h => rseqs_B A n c l W h (by omega) t et)
    have S3 := hide (fun W c A h => pairs_B A n2 c s W h (by omega) p ep)
    have S4 := hide (fun W c A h => rpairs_B A n2 c s W h (by omega) p ep)
    clear et ep
    go_enter Tryd.func3, Tryd.ntmps3
    go_wp2_with fail
    refine (awake15 _ ht).mono ?_
    rintro e w1 ⟨rfl, hE⟩
    replace ht := ht.ext hE
    replace h := h.ext hE
    replace h2 := h2.ext hE
    replace h3 := h3.ext hE
    go_wp2_with fail
    refine (S1.out _ _ _ h ht).mono ?_
    rintro e w2 ⟨At, ct, rfl, hT, hE2⟩
    replace hE := hE.trans hE2
    replace h := h.ext hE2
    replace h2 := h2.ext hE2
    replace h3 := h3.ext hE2
    clear hE2 S1
    go_wp2_with fail
    refine (S2.out _ _ _ h).mono ?_
    rintro e w3 ⟨Au, cu, rfl, hU, hE2⟩
    replace hE := hE.trans hE2
    replace h := h.ext hE2
    replace h2 := h2.ext hE2
    replace h3 := h3.ext hE2
    replace hT := hT.ext hE2
    clear hE2 S2
    go_wp2_with fail
    refine (numbers_any _ _ _ _ _ _ _ _ _ hT hU true (by simp)).mono ?_
    rintro e w4 ⟨rfl, hE2⟩
    replace hE := hE.trans hE2
    replace h := h.ext hE2
    replace h2 := h2.ext hE2
    replace h3 := h3.ext hE2
    clear hE2 hT hU
    go_wp2_with fail
    refine (S3.out _ _ _ h2).mono ?_
    rintro e w5 ⟨At2, ct2, rfl, hT, hE2⟩
    replace hE := hE.trans hE2
    replace h := h.ext hE2
    replace h2 := h2.ext hE2
    replace h3 := h3.ext hE2
    clear hE2 S3
    go_wp2_with fail
    refine (S4.out _ _ _ h2).mono ?_
    rintro e w6 ⟨Au2, cu2, rfl, hU, hE2⟩
    replace hE := hE.trans hE2
    replace h := h.ext hE2
    replace h3 := h3.ext hE2
    replace hT := hT.ext hE2
    clear hE2 S4 h2
    go_wp2_with fail
    refine (same_any _ _ _ _ _ _ _ _ _ hT hU true (by simp)).mono ?_
    rintro e w7 ⟨rfl, hE2⟩
    replace hE := hE.trans hE2
    replace h := h.ext hE2
    replace h3 := h3.ext hE2
    clear hE2 hT hU
    obtain ⟨y, ey⟩ : ∃ y, rL b = y := ⟨_, rfl⟩
    obtain ⟨E, eE⟩ : ∃ y, rE b = y := ⟨_, rfl⟩
    have S5 := hide (fun W h => read_B A3 n3 c3 b W h y ey E eE)
    have S6 := hide (fun W h => rread_B A3 n3 c3 b W h y ey E eE)
    clear ey eE
    by_cases h0 : n = 0
    · subst h0
      have S9 := hide (fun W => write_no A 0 c W (.inl rfl))
      clear h
      go_wp2_with fail
      refine (S9.out _).mono ?_
      rintro e w' ⟨rfl, rfl⟩
      go_wp2_with fail
      refine (S5.out _ h3).mono ?_
      rintro e w8 ⟨At3, ct3, rfl, hT, hE2⟩
      replace hE := hE.trans hE2
      replace h3 := h3.ext hE2
      clear hE2
      go_wp2_with fail
      refine (S6.out _ h3).mono ?_
      rintro e w9 ⟨Au3, cu3, rfl, hU, hE2⟩
      replace hE := hE.trans hE2
      replace hT := hT.ext hE2
      clear hE2 h3 S5 S6
      go_wp2_with fail
      refine (same_any _ _ _ _ _ _ _ _ _ hT hU true (by simp)).mono ?_
      rintro e w10 ⟨rfl, hE2⟩
      go_wp2_with fail
      go_ret
      exact ⟨rfl, hE.trans hE2⟩
    · obtain ⟨x, ex⟩ : ∃ y, bod l = y := ⟨_, rfl⟩
      have S7 := hide (fun W h => write_B A n c l W h (by omega) (by omega) x ex)
      have S8 := hide (fun W h => rwrite_B A n c l W h (by omega) x ex)
      have hn0 : (0 : Int) < (n : Int) := by omega
      clear ex
      go_wp2_with fail
      refine (S7.out _ h).mono ?_
      rintro e w8 ⟨Ax, cx, rfl, _, hX, hE2⟩
      replace hE := hE.trans hE2
      replace h := h.ext hE2
      replace h3 := h3.ext hE2
      clear hE2 S7
      go_wp2_with fail
      refine regE_start (by kernel_rfl) ?_
      refine regE_take (i := 0) (v := ?_) rfl (by kernel_rfl) (by kernel_rfl) (by kernel_rfl) (fun _ _ _ h => h) (by rfl) ?_ ?_
      rotate_left
      · intro W hW; go_simp; try with_reducible rfl
      simp only [Act.put, List.setIfInBounds_toArray, List.set_cons_zero, List.set_cons_succ]
      refine regE_take (i := 1) (v := ?_) rfl (by kernel_rfl) (by kernel_rfl) (by kernel_rfl) (fun _ _ _ h => h) (by rfl) ?_ ?_
      rotate_left
      · intro W hW; go_simp; try with_reducible rfl
      simp only [Act.put, List.setIfInBounds_toArray, List.set_cons_zero, List.set_cons_succ]
      refine regE_take (i := 2) (v := ?_) rfl (by kernel_rfl) (by kernel_rfl) (by kernel_rfl) (fun _ _ _ h => h) (by rfl) ?_ ?_
      rotate_left
      · intro W hW; go_simp; try with_reducible rfl
      simp only [Act.put, List.setIfInBounds_toArray, List.set_cons_zero, List.set_cons_succ]
      refine regE_take (i := 3) (v := ?_) rfl (by kernel_rfl) (by kernel_rfl) (by kernel_rfl) (fun _ _ _ h => h) (by rfl) ?_ ?_
      rotate_left
      · intro W hW; go_simp; try with_reducible rfl
      simp only [Act.put, List.setIfInBounds_toArray, List.set_cons_zero, List.set_cons_succ]
      refine regE_take (i := 4) (v := ?_) rfl (by kernel_rfl) (by kernel_rfl) (by kernel_rfl) (fun _ _ _ h => h) (by rfl) ?_ ?_
      rotate_left
      · intro W hW; have s1 := run_str (hX.ext hW); go_simp; try with_reducible rfl
      simp only [Act.put, List.setIfInBounds_toArray, List.set_cons_zero, List.set_cons_succ]
      refine regE_take (i := 5) (v := ?_) rfl (by kernel_rfl) (by kernel_rfl) (by kernel_rfl) (fun _ _ _ h => h) (by rfl) ?_ ?_
      rotate_left
      · intro W hW; go_simp; try with_reducible rfl
      simp only [Act.put, List.setIfInBounds_toArray, List.set_cons_zero, List.set_cons_succ]
      refine regE_do (i := 6) rfl (by kernel_rfl) (fun K hK => ?_)
      rw [if_pos (by rfl)]
      go_simp
      refine (S8.out _ (h.ext (Ext.refl _).drew)).mono ?_
      rintro e w9 ⟨Ay, cy, rfl, hY, hE2⟩
      refine hK.out _ _ (((Ext.refl _).drew).trans hE2) ?_
      clear hK K
      refine regE_raise ?_
      try simp only [Act.put, List.setIfInBounds_toArray, List.set_cons_zero, List.set_cons_succ]
      refine regE_take (i := 7) (v := ?_) rfl (by kernel_rfl) (by kernel_rfl) (by kernel_rfl) (fun _ _ _ h => h) (by rfl) ?_ ?_
      rotate_left
      · intro W hW; have s1 := run_str (hY.ext hW); go_simp; try with_reducible rfl
      simp only [Act.put, List.setIfInBounds_toArray, List.set_cons_zero, List.set_cons_succ]
      refine regE_take (i := 8) (v := ?_) rfl (by kernel_rfl) (by kernel_rfl) (by kernel_rfl) (fun _ _ _ h => h) (by rfl) ?_ ?_
      rotate_left
      · intro W hW; go_simp; try with_reducible rfl
      simp only [Act.put, List.setIfInBounds_toArray, List.set_cons_zero, List.set_cons_succ]
      refine regE_take (i := 9) (v := ?_) rfl (by kernel_rfl) (by kernel_rfl) (by kernel_rfl) (fun _ _ _ h => h) (by rfl) ?_ ?_
      rotate_left
      · intro W hW; go_simp; try with_reducible rfl
      simp only [Act.put, List.setIfInBounds_toArray, List.set_cons_zero, List.set_cons_succ]
      refine regE_done (by kernel_rfl) ?_
      replace hE2 := ((Ext.refl _).drew).trans hE2
      replace hE := hE.trans hE2
      replace h3 := h3.ext hE2
      clear hE2 hX hY h S8
      go_wp2_with fail
      refine (S5.out _ h3).mono ?_
      rintro e w8 ⟨At3, ct3, rfl, hT, hE2⟩
      replace hE := hE.trans hE2
      replace h3 := h3.ext hE2
      clear hE2
      go_wp2_with fail
      refine (S6.out _ h3).mono ?_
      rintro e w9 ⟨Au3, cu3, rfl, hU, hE2⟩
      replace hE := hE.trans hE2
      replace hT := hT.ext hE2
      clear hE2 h3 S5 S6
      go_wp2_with fail
      refine (same_any _ _ _ _ _ _ _ _ _ hT hU true (by simp)).mono ?_
      rintro e w10 ⟨rfl, hE2⟩
      go_wp2_with fail
      go_ret
      exact ⟨rfl, hE.trans hE2⟩
end Go.Proofs.YtiamcdbnhmlhaaaDoor

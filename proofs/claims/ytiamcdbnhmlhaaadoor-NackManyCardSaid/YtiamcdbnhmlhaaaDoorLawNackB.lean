/- NackBack: the walk. -/
import Derived.Test.YtiamcdbnhmlhaaaDoorNackAwake
namespace Go.Proofs.YtiamcdbnhmlhaaaDoor
open Go.RowKit
theorem rE_bod (l : List Pr) (h1 : 1 ≤ l.length) (h2 : l.length ≤ 16380) : rE (bod l) = 0 ∧ rL (bod l) = l := by
  have e : rE (bod l) = 0 := by
    unfold rE
    rw [wr_len, if_neg (by omega), if_neg (by omega)]
  exact ⟨e, by unfold rL; rw [if_pos e]; exact rd_wr l⟩
theorem rL_back (b : List UInt8) (h : rE b = 0) : bod (rL b) = b ∧ 4 * (rL b).length = b.length ∧ 0 < b.length ∧ b.length ≤ 65520 := by
  have h' := h
  unfold rE at h
  split at h
  · cases h
  · split at h
    · cases h
    · unfold rL
      rw [if_pos h']
      exact ⟨wr_rd b (by omega), rd_len b (by omega), by omega, by omega⟩
theorem rL_off (b : List UInt8) (h : rE b ≠ 0) : rL b = [] := by unfold rL; rw [if_neg h]
set_option maxRecDepth 100000 in
set_option maxHeartbeats 2000000 in
theorem law_nackback (A : Option Addr) (n c : Nat) (l : List Pr) (A2 : Option Addr) (n2 c2 : Nat) (s : List UInt16) (A3 : Option Addr) (n3 c3 : Nat) (b : List UInt8) (w : World) (ht : Tab w) (h : Els ePr w A n c l) (h2 : Els e16 w A2 n2 c2 s) (h3 : Bytes w A3 n3 c3 b) :
    Calls Tryd.prog 5 #[.slice A n c, .slice A2 n2 c2, .slice A3 n3 c3] w fun e w' => e = .returned (.bool true) ∧ Ext w w' := by
  by_cases hbig : 3000 < n ∨ 3000 < n2 ∨ 70000 < n3
  · go_enter Tryd.func5, Tryd.ntmps5
    go_wp2_with fail
    refine (awake15 _ ht).mono ?_
    rintro e w1 ⟨rfl, hE⟩
    by_cases k1 : 3000 < n
    · go_wp2_with fail
      go_ret
      exact ⟨rfl, hE⟩
    · by_cases k2 : 3000 < n2
      · go_wp2_with fail
        go_ret
        exact ⟨rfl, hE⟩
      · have k3 : 70000 < n3 := by omega
        go_wp2_with fail
        go_ret
        exact ⟨rfl, hE⟩
  · have k1 : ¬ 3000 < n := by omega
    have k2 : ¬ 3000 < n2 := by omega
    have k3 : ¬ 70000 < n3 := by omega
    clear hbig
    have hln := h.len
    have hls := h2.len
    have hlb := h3.len
    have hpl := pairsR_len s
    have hpl2 : (pairs s).length ≤ n2 := by unfold pairs; rw [List.length_reverse]; omega
    have htl := tells_len l
    have hpt := pairs_tells l
    have htp := tells_pairs s
    have htq := tells_pairs (tells l)
    obtain ⟨p, ep⟩ : ∃ t, pairs s = t := ⟨_, rfl⟩
    rw [ep] at hpl2 htp
    have S1 := hide (fun W c A h => pairs_B A n2 c s W h (by omega) p ep)
    have S2 := hide (fun W c A h ht => seqs_B A p.length c p W h (by omega) ht s htp)
    obtain ⟨t, et⟩ : ∃ t, tells l = t := ⟨_, rfl⟩
    rw [et] at htl hpt htq
    have S3 := hide (fun W c A h ht => seqs_B A n c l W h (by omega) ht t et)
    obtain ⟨q, eq⟩ : ∃ t', pairs t = t' := ⟨_, rfl⟩
    rw [eq] at hpt htq
    have S4 := hide (fun W c A h => pairs_B A t.length c t W h (by omega) q eq)
    have S5 := hide (fun W c A h ht => seqs_B A q.length c q W h (by omega) ht t htq)
    have j1 : q.length ≤ n := by omega
    have j2 : n ≤ t.length := by omega
    have j3 : t.length ≤ 17 * n := by omega
    have j3' : IntKind.i64.wrap (17 * (n : Int)) = ((17 * n : Nat) : Int) := by rw [IntWalk.i64_in _ (by omega)]; omega
    have j4 : (t.length : Int) ≤ ((17 * n : Nat) : Int) := by omega
    have HLN := hide hln
    have HLB := hide hlb
    clear ep et eq htp htq htl hpt hpl hpl2 hln hls hlb
    go_enter Tryd.func5, Tryd.ntmps5
    go_wp2_with fail
    refine (awake15 _ ht).mono ?_
    rintro e w1 ⟨rfl, hE⟩
    replace ht := ht.ext hE
    replace h := h.ext hE
    replace h2 := h2.ext hE
    replace h3 := h3.ext hE
    go_wp2_with fail
    refine (S1.out _ _ _ h2).mono ?_
    rintro e w2 ⟨Ap, cp, rfl, hP, hE2⟩
    replace hE := hE.trans hE2
    replace ht := ht.ext hE2
    replace h := h.ext hE2
    replace h2 := h2.ext hE2
    replace h3 := h3.ext hE2
    clear hE2 S1
    go_wp2_with fail
    refine (S2.out _ _ _ hP ht).mono ?_
    rintro e w3 ⟨At, ct, rfl, hT, hE2⟩
    replace hE := hE.trans hE2
    replace ht := ht.ext hE2
    replace h := h.ext hE2
    replace h2 := h2.ext hE2
    replace h3 := h3.ext hE2
    clear hE2 S2 hP
    go_wp2_with fail
    refine (numbers_any _ _ _ _ _ _ _ _ _ hT h2 true (by simp)).mono ?_
    rintro e w4 ⟨rfl, hE2⟩
    replace hE := hE.trans hE2
    replace ht := ht.ext hE2
    replace h := h.ext hE2
    replace h3 := h3.ext hE2
    clear hE2 hT h2
    go_wp2_with fail
    refine (S3.out _ _ _ h ht).mono ?_
    rintro e w5 ⟨At2, ct2, rfl, hT, hE2⟩
    replace hE := hE.trans hE2
    replace ht := ht.ext hE2
    replace h := h.ext hE2
    replace h3 := h3.ext hE2
    clear hE2 S3
    go_wp2_with fail
    refine (S4.out _ _ _ hT).mono ?_
    rintro e w6 ⟨Aq, cq, rfl, hQ, hE2⟩
    replace hE := hE.trans hE2
    replace ht := ht.ext hE2
    replace h := h.ext hE2
    replace h3 := h3.ext hE2
    replace hT := hT.ext hE2
    clear hE2 S4
    go_wp2_with fail
    refine (S5.out _ _ _ hQ ht).mono ?_
    rintro e w7 ⟨Au, cu, rfl, hU, hE2⟩
    replace hE := hE.trans hE2
    replace h := h.ext hE2
    replace h3 := h3.ext hE2
    replace hT := hT.ext hE2
    clear hE2 S5 hQ ht
    go_wp2_with fail
    refine (numbers_any _ _ _ _ _ _ _ _ _ hU hT true (by simp)).mono ?_
    rintro e w8 ⟨rfl, hE2⟩
    replace hE := hE.trans hE2
    replace h := h.ext hE2
    replace h3 := h3.ext hE2
    clear hE2 hU hT
    by_cases h0 : n = 0
    · subst h0
      have S9 := hide (fun W => write_no A 0 c W (.inl rfl))
      clear h
      go_wp2_with fail
      refine (S9.out _).mono ?_
      rintro e w' ⟨rfl, rfl⟩
      by_cases hE0 : rE b = 0
      · obtain ⟨y1, y2, y3, y4⟩ := rL_back b hE0
        have Sr := hide (fun W h => read_B A3 n3 c3 b W h _ rfl 0 hE0)
        obtain ⟨y, ey⟩ : ∃ y, rL b = y := ⟨_, rfl⟩
        rw [ey] at y1 y2 Sr
        have S8 := hide (fun W c A h => write_B A y.length c y W h (by omega) (by omega) b y1)
        clear ey y1 y2 y3 y4 hE0
        go_wp2_with fail
        refine (Sr.out _ h3).mono ?_
        rintro e wa ⟨Ay, cy, rfl, hY, hE2⟩
        replace hE := hE.trans hE2
        replace h3 := h3.ext hE2
        clear hE2 Sr
        go_wp2_with fail
        refine (S8.out _ _ _ hY).mono ?_
        rintro e wb ⟨Az, cz, rfl, _, hZ, hE2⟩
        replace hE := hE.trans hE2
        replace h3 := h3.ext hE2
        have s1 := run_str h3
        have s2 := run_str hZ
        go_wp2_with fail
        go_ret
        exact ⟨rfl, hE⟩
      · have Sr := hide (fun W h => read_B A3 n3 c3 b W h [] (rL_off b hE0) _ rfl)
        have hne : (rE b != 0) = true := bne_iff_ne.2 hE0
        obtain ⟨E, eE⟩ : ∃ y, rE b = y := ⟨_, rfl⟩
        rw [eE] at Sr hne
        clear eE hE0
        go_wp2_with fail
        refine (Sr.out _ h3).mono ?_
        rintro e wa ⟨Ay, cy, rfl, hY, hE2⟩
        replace hE := hE.trans hE2
        go_wp2_with fail
        go_ret
        exact ⟨rfl, hE⟩
    · obtain ⟨z1, z2⟩ := rE_bod l (by rw [HLN.out]; omega) (by rw [HLN.out]; omega)
      obtain ⟨x, ex⟩ : ∃ y, bod l = y := ⟨_, rfl⟩
      have S7 := hide (fun W h => write_B A n c l W h (by omega) (by omega) x ex)
      rw [ex] at z1 z2
      have S8 := hide (fun W c A h => read_B A (4 * n) c x W h l z2 0 z1)
      clear ex z1 z2
      go_wp2_with fail
      refine (S7.out _ h).mono ?_
      rintro e w9 ⟨Ax, cx, rfl, _, hX, hE2⟩
      replace hE := hE.trans hE2
      replace h := h.ext hE2
      replace h3 := h3.ext hE2
      clear hE2 S7
      go_wp2_with fail
      refine (S8.out _ _ _ hX).mono ?_
      rintro e w10 ⟨Ay, cy, rfl, hY, hE2⟩
      replace hE := hE.trans hE2
      replace h := h.ext hE2
      replace h3 := h3.ext hE2
      clear hE2 S8 hX
      go_wp2_with fail
      refine (same_any _ _ _ _ _ _ _ _ _ hY h true (by simp)).mono ?_
      rintro e w11 ⟨rfl, hE2⟩
      replace hE := hE.trans hE2
      replace h3 := h3.ext hE2
      clear hE2 hY h
      by_cases hE0 : rE b = 0
      · obtain ⟨y1, y2, y3, y4⟩ := rL_back b hE0
        have Sr := hide (fun W h => read_B A3 n3 c3 b W h _ rfl 0 hE0)
        obtain ⟨y, ey⟩ : ∃ y, rL b = y := ⟨_, rfl⟩
        rw [ey] at y1 y2 Sr
        have S8 := hide (fun W c A h => write_B A y.length c y W h (by omega) (by omega) b y1)
        clear ey y1 y2 y3 y4 hE0
        go_wp2_with fail
        refine (Sr.out _ h3).mono ?_
        rintro e wa ⟨Ay, cy, rfl, hY, hE2⟩
        replace hE := hE.trans hE2
        replace h3 := h3.ext hE2
        clear hE2 Sr
        go_wp2_with fail
        refine (S8.out _ _ _ hY).mono ?_
        rintro e wb ⟨Az, cz, rfl, _, hZ, hE2⟩
        replace hE := hE.trans hE2
        replace h3 := h3.ext hE2
        have s1 := run_str h3
        have s2 := run_str hZ
        go_wp2_with fail
        go_ret
        exact ⟨rfl, hE⟩
      · have Sr := hide (fun W h => read_B A3 n3 c3 b W h [] (rL_off b hE0) _ rfl)
        have hne : (rE b != 0) = true := bne_iff_ne.2 hE0
        obtain ⟨E, eE⟩ : ∃ y, rE b = y := ⟨_, rfl⟩
        rw [eE] at Sr hne
        clear eE hE0
        go_wp2_with fail
        refine (Sr.out _ h3).mono ?_
        rintro e wa ⟨Ay, cy, rfl, hY, hE2⟩
        replace hE := hE.trans hE2
        go_wp2_with fail
        go_ret
        exact ⟨rfl, hE⟩
end Go.Proofs.YtiamcdbnhmlhaaaDoor

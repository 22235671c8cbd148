/- TrainBack: the walk. -/
import Derived.Test.YthepndimhiieiaaTrainAw
import Derived.Test.YthepndimhiieiaaPlainTrainB
import Derived.Laws.StructEq
import Derived.Deep.DeepCutAuto
namespace Go.Proofs.Ythepndimhiieiaa
open Go.RowKit
set_option maxRecDepth 100000 in
set_option maxHeartbeats 4000000 in
theorem law_trainback (k ct : Int) (A : Option Addr) (n c : Nat) (body : List UInt8) (t : Int) (A2 : Option Addr) (n2 c2 : Nat) (b : List UInt8) (w : World) (hh : Bytes w A n c body) (hb : Bytes w A2 n2 c2 b) :
    Calls Try.prog 10 #[.int .i64 k, .int .i64 ct, .slice A n c, .int .i64 t, .slice A2 n2 c2] w fun e w' => e = .returned (.bool true) ∧ Ext w w' := by
  by_cases hbig : 3000 < n ∨ 3000 < n2
  · have d1 : (3000 : Int) < (n : Int) ∨ ((3000 : Int) < (n2 : Int) ∧ ¬ (3000 : Int) < (n : Int)) := by omega
    rcases d1 with d1 | ⟨d1, d2⟩
    all_goals
      go_enter Try.func10, Try.ntmps10
      go_wp2_with fail
      refine (awake11 _).mono ?_
      rintro e w1 ⟨rfl, hE2⟩
      go_wp2_with fail
      go_ret
      exact ⟨rfl, hE2⟩
  · have d1 : ¬ (3000 : Int) < (n2 : Int) := by omega
    have d2 : ¬ (3000 : Int) < (n : Int) := by omega
    have HB := hide (And.intro d1 d2)
    clear hbig
    have hbl := hh.len
    have hS : ∀ (W : World), Bytes W A n c body → Calls Try.prog 37 #[.int .i64 k, .int .i64 ct, .slice A n c, .int .i64 t] W fun e w' => ∃ A' N c' y E, e = .returned (.tuple #[.slice A' N c', .int .i64 E]) ∧ Bytes w' A' N c' y ∧ (E ≠ 0 ∨ (E = 0 ∧ ∃ t' : Nat, t = (t' : Int) ∧ clOK k ct n t' = true ∧ N = 4 + n + t' ∧ clBytes k ct body t' = y)) ∧ Ext W w' := by
      intro W hW
      cases h : clOK k ct n t
      · exact (tclose_no k ct t A n c W (by omega) h).mono fun e w' ⟨he, hE⟩ => ⟨none, 0, 0, [], 1, he, Bytes.nil _, .inl (by decide), hE⟩
      · obtain ⟨⟨h1, _⟩, _⟩ := cl_ok h
        obtain ⟨t', rfl⟩ := Int.eq_ofNat_of_zero_le h1
        exact (tclose_ok k ct t' A n c body W hW h _ rfl).mono fun e w' ⟨A', c', he, hB, hE⟩ => ⟨A', _, c', _, 0, he, hB, .inr ⟨rfl, t', rfl, h, rfl, rfl⟩, hE⟩
    have S := hide hS
    clear hS
    go_enter Try.func10, Try.ntmps10
    go_wp2_with fail
    refine (awake11 _).mono ?_
    rintro e w1 ⟨rfl, hE⟩
    replace hh := hh.ext hE
    replace hb := hb.ext hE
    go_wp2_with fail
    refine (S.out _ hh).mono ?_
    rintro e w2 ⟨Ax, N, cx, y, E, rfl, hY, hc, hE2⟩
    replace hE := hE.trans hE2
    replace hh := hh.ext hE2
    replace hb := hb.ext hE2
    clear hE2 S
    have HC := hide hc
    clear hc
    go_upto_if 44 with (fail)
    go_cut [] (fun wx => Ext w2 wx)
    case first =>
      rcases HC.out with h0 | ⟨rfl, t', rfl, h1, h2, h3⟩
      · have h0' : (E == 0) = false := beq_eq_false_iff_ne.2 h0
        clear HC h0
        go_wp2_with fail
        go_meet
        case rel => exact Ext.refl _
      · rw [← hbl] at h1
        obtain ⟨q0, q1, q2, q3, q4, q5, q6⟩ := close_open k ct body t' h1
        obtain ⟨⟨_, _, h6, h7⟩, _⟩ := cl_ok h1
        rw [h3] at q0 q1 q2 q3 q4 q5 q6
        obtain ⟨C, hC⟩ : ∃ x, oC y = x := ⟨_, rfl⟩
        obtain ⟨T, hT⟩ : ∃ x, oT y = x := ⟨_, rfl⟩
        rw [hC] at q2
        rw [hT] at q3
        subst q2 q3
        rw [hbl, ← h2] at q4
        have hNn : N ≤ 1000000 := by have := d2; omega
        have S2 := hide (fun W A c h => topen_B A N c y W h hNn (decide (0 < t')) C T N t' 0 body n q1 hC hT q4 q5 q0 q6 hbl)
        have m4 : ((N : Int) % 4 != 0) = false := by rw [bne_eq_false_iff_eq]; omega
        have hpp : (decide (0 < t') != decide (0 < t')) = false := by simp
        have hbb : (body != body) = false := by simp
        have j1 : (N : Int).tmod 4 = (N : Int) % 4 := Int.tmod_eq_emod_of_nonneg (by omega)
        clear HC h1 h2 h3 q0 q1 q4 q5 q6 hC hT h6 h7 hNn
        go_wp2_with fail
        refine (S2.out _ _ _ hY).mono ?_
        rintro e w3 ⟨A3, c3, rfl, hB3, hE3⟩
        have hbk := Blk.new w3 62 #[.bool (decide (0 < t')), .int .i64 (C : Int), .int .i64 (T : Int), .int .i64 (N : Int)]
        have hE4 := hE3.alloc (.cells #[.bool (decide (0 < t')), .int .i64 (C : Int), .int .i64 (T : Int), .int .i64 (N : Int)] 62)
        replace hB3 := hB3.alloc (.cells #[.bool (decide (0 < t')), .int .i64 (C : Int), .int .i64 (T : Int), .int .i64 (N : Int)] 62)
        replace hh := hh.ext hE4
        obtain ⟨⟨u0, u1, u2, u3⟩, ⟨v0, v1, v2, v3⟩, hlt⟩ := hbk.four
        have s1 := run_str hB3
        have s2 := run_str hh
        go_wp2_with fail
        go_meet
        case rel => exact hE4
    case rest =>
      replace hE := hE.trans hcut
      replace hb := hb.ext hcut
      clear hcut HC hY hh
      have hbl2 := hb.len
      by_cases hE0 : oE b = 0
      case neg =>
        obtain ⟨q1, q2, q3, q4, q5, q6⟩ := open_bad hE0
        obtain ⟨E2, hE2⟩ : ∃ x, oE b = x := ⟨_, rfl⟩
        have S2 := hide (fun W h => topen_B A2 n2 c2 b W h (by omega) false 0 0 0 0 E2 [] 0 q1 q2 q3 q4 q5 hE2 q6 rfl)
        rw [hE2] at hE0
        have hne : (E2 != 0) = true := by simp [hE0]
        clear q1 q2 q3 q4 q5 q6 hE0 hE2 hbl2 hbl
        go_wp2_with fail
        refine (S2.out _ hb).mono ?_
        rintro e w3 ⟨A3, c3, rfl, hB3, hE3⟩
        have hbk := Blk.new w3 62 #[.bool false, .int .i64 0, .int .i64 0, .int .i64 0]
        obtain ⟨⟨u0, u1, u2, u3⟩, ⟨v0, v1, v2, v3⟩, hlt⟩ := hbk.four
        go_wp2_with fail
        go_ret
        exact ⟨rfl, (hE.trans hE3).alloc _⟩
      obtain ⟨z1, z2, z3⟩ := open_close b hE0
      obtain ⟨_, _, _, y4, y5, _, _, _, _, _⟩ := open_parts b hE0
      obtain ⟨P, hP⟩ : ∃ x, oP b = x := ⟨_, rfl⟩
      obtain ⟨C, hC⟩ : ∃ x, oC b = x := ⟨_, rfl⟩
      obtain ⟨T, hT⟩ : ∃ x, oT b = x := ⟨_, rfl⟩
      obtain ⟨Z, hZ⟩ : ∃ x, oS b = x := ⟨_, rfl⟩
      obtain ⟨V, hV⟩ : ∃ x, oN b = x := ⟨_, rfl⟩
      obtain ⟨x, hx⟩ : ∃ x, oB b = x := ⟨_, rfl⟩
      obtain ⟨M, hM⟩ : ∃ M, x.length = M := ⟨_, rfl⟩
      have S2 := hide (fun W h => topen_B A2 n2 c2 b W h (by omega) P C T Z V 0 x M hP hC hT hZ hV hE0 hx hM)
      rw [hC, hT, hV, hx] at z1 z2 z3
      rw [hV] at y4 y5
      obtain ⟨y, hy⟩ : ∃ y, clBytes T C x V = y := ⟨_, rfl⟩
      rw [hy] at z2 z3
      have hyl := cl_len (T : Int) (C : Int) x V z1
      rw [hM] at z1 hyl
      rw [hy, z2, hbl2] at hyl
      have S3 := hide (fun W A c h => tclose_ok (T : Int) (C : Int) V A M c x W h z1 y hy)
      rw [← hyl] at S3
      rw [hbl2] at y4 z3
      have Z3 := hide z3
      clear z1 z2 z3 hP hC hT hZ hV hx hM hy hyl hE0 hbl hbl2
      go_wp2_with fail
      refine (S2.out _ hb).mono ?_
      rintro e w3 ⟨A3, c3, rfl, hB3, hE3⟩
      have hbk := Blk.new w3 62 #[.bool P, .int .i64 (C : Int), .int .i64 (T : Int), .int .i64 (Z : Int)]
      have hE4 := hE3.alloc (.cells #[.bool P, .int .i64 (C : Int), .int .i64 (T : Int), .int .i64 (Z : Int)] 62)
      replace hB3 := hB3.alloc (.cells #[.bool P, .int .i64 (C : Int), .int .i64 (T : Int), .int .i64 (Z : Int)] 62)
      obtain ⟨⟨u0, u1, u2, u3⟩, ⟨v0, v1, v2, v3⟩, hlt⟩ := hbk.four
      replace hE := hE.trans hE4
      replace hb := hb.ext hE4
      clear hE4 S2 hE3
      go_wp2_with fail
      refine (S3.out _ _ _ hB3).mono ?_
      rintro e w4 ⟨A4, c4, rfl, hB4, hE5⟩
      clear u0 u1 u2 u3 v0 v1 v2 v3 hlt hbk hB3
      replace hE := hE.trans hE5
      replace hb := hb.ext hE5
      clear hE5 S3
      go_wp2_with fail
      replace Z3 := Z3.out
      go_loopw [23, 24] (fun cl i wr => ∃ (j : Nat) (z : Bool), i = .int .i64 (j : Int) ∧ cl = .bool z ∧ (z = true ↔ zerosIn b (n2 - V) j) ∧ n2 - V ≤ j ∧ j ≤ n2 ∧ (j = n2 → V = 0) ∧ Ext w4 wr) (fun _ i _ => n2 - (intOf i).toNat)
      case atStart => exact ⟨n2 - V, true, by congr 1; omega, rfl, ⟨fun _ => fun k k1 k2 => by omega, fun _ => rfl⟩, Nat.le_refl _, by omega, by omega, Ext.refl _⟩
      case round =>
        obtain ⟨j, z, rfl, rfl, hz, hj1, hj2, hj3, hX⟩ := hrel
        by_cases hlt : j < n2 - 1
        · obtain ⟨g, o, rfl, hg⟩ := hb.plain (by omega)
          have hcell := (hb.ext hX).cellK j (by omega)
          obtain ⟨v, hv⟩ : ∃ v, (b.getD j 0).toNat = v := ⟨_, rfl⟩
          rw [hv] at hcell
          have hlt2 : (j : Int) < (n2 : Int) - 1 := by omega
          have hj0 : (j : Int) < (n2 : Int) := by omega
          have hstep : zerosIn b (n2 - V) (j + 1) ↔ (zerosIn b (n2 - V) j ∧ v = 0) := by
            constructor
            · intro q
              exact ⟨fun k k1 k2 => q k k1 (by omega), by rw [← hv]; exact q j hj1 (by omega)⟩
            · rintro ⟨q1, q2⟩ k k1 k2
              by_cases hk : k = j
              · subst hk; rw [hv]; exact q2
              · exact q1 k k1 (by omega)
          have HST := hide (And.intro hz hstep)
          clear hz hstep hv hj3
          cases z
          · go_wp2_with fail
            go_roundw
            case rel => exact ⟨j + 1, false, by go_num, rfl, by rw [HST.out.2, ← HST.out.1]; simp, by omega, by omega, by omega, hX⟩
            case measure => simp [intOf]; omega
          · go_wp2_with fail
            go_roundw
            case rel =>
              refine ⟨j + 1, _, by go_num, rfl, ?_, by omega, by omega, by omega, hX⟩
              rw [HST.out.2, ← HST.out.1]
              simp
            case measure => simp [intOf]; omega
        · have hnlt : ¬ (j : Int) < (n2 : Int) - 1 := by omega
          have hzz : (y == b) = z := by
            have e : zerosIn b (n2 - V) j ↔ zerosIn b (n2 - V) (n2 - 1) := by
              by_cases hv0 : V = 0
              · exact ⟨fun _ k k1 k2 => by omega, fun _ k k1 k2 => by omega⟩
              · rw [show j = n2 - 1 by omega]
            have e2 : z = true ↔ y = b := hz.trans (e.trans Z3.symm)
            rw [Bool.eq_iff_iff, beq_iff_eq]
            exact e2.symm
          have s1 := run_str (hB4.ext hX)
          have s2 := run_str (hb.ext hX)
          have hz2 : (z == z) = true := by cases z <;> rfl
          clear hz Z3
          go_wp2_with fail
          go_ret
          exact ⟨rfl, hE.trans hX⟩
end Go.Proofs.Ythepndimhiieiaa

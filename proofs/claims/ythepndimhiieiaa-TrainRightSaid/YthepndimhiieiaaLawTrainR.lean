/- TrainRight: the walk. (Written by wip/gen/lawtrainr.py: the remainder behind the last if stands twice.) -/
import Derived.Test.YthepndimhiieiaaTrainT
import Derived.Test.YthepndimhiieiaaTrainAw
import Derived.Test.YthepndimhiieiaaReg
import Derived.Laws.StructEq
namespace Go.Proofs.Ythepndimhiieiaa
open Go.RowKit
theorem ropen_B (A : Option Addr) (n c : Nat) (b : List UInt8) (w : World) (hb : Bytes w A n c b) (hn : n ≤ 1000000) (P : Bool) (C T S V : Nat) (E : Int) (y : List UInt8) (N : Nat) (e1 : oP b = P) (e2 : oC b = C) (e3 : oT b = T) (e4 : oS b = S) (e5 : oN b = V) (e6 : oE b = E) (e7 : oB b = y) (e8 : y.length = N) : Calls Try.prog 36 #[.slice A n c] w fun e w' => ∃ A' c', e = .returned (.tuple #[.agg #[.bool P, .int .i64 (C : Int), .int .i64 (T : Int), .int .i64 (S : Int), .slice A' N c', .int .i64 (V : Int)], .int .i64 E]) ∧ Bytes w' A' N c' y ∧ Ext w w' := by
  subst e1 e2 e3 e4 e5 e6 e7 e8
  exact ropen_any A n c b w hb hn
set_option maxRecDepth 100000 in
set_option maxHeartbeats 4000000 in
theorem law_trainright (A : Option Addr) (n c : Nat) (b : List UInt8) (k ct : Int) (A2 : Option Addr) (n2 c2 : Nat) (body : List UInt8) (t : Int) (w : World) (hb : Bytes w A n c b) (hh : Bytes w A2 n2 c2 body) :
    Calls Try.prog 9 #[.slice A n c, .int .i64 k, .int .i64 ct, .slice A2 n2 c2, .int .i64 t] w fun e w' => e = .returned (.bool true) ∧ Ext w w' := by
  by_cases hbig : 70000 < n ∨ 70000 < n2
  · have d1 : (70000 : Int) < (n : Int) ∨ ((70000 : Int) < (n2 : Int) ∧ ¬ (70000 : Int) < (n : Int)) := by omega
    rcases d1 with d1 | ⟨d1, d2⟩
    all_goals
      go_enter Try.func9, Try.ntmps9
      go_wp2_with fail
      refine (awake11 _).mono ?_
      rintro e w1 ⟨rfl, hE2⟩
      go_wp2_with fail
      go_ret
      exact ⟨rfl, hE2⟩
  · have d1 : ¬ (70000 : Int) < (n : Int) := by omega
    have d2 : ¬ (70000 : Int) < (n2 : Int) := by omega
    clear hbig
    obtain ⟨P, hP⟩ : ∃ x, oP b = x := ⟨_, rfl⟩
    obtain ⟨C, hC⟩ : ∃ x, oC b = x := ⟨_, rfl⟩
    obtain ⟨T, hT⟩ : ∃ x, oT b = x := ⟨_, rfl⟩
    obtain ⟨Z, hZ⟩ : ∃ x, oS b = x := ⟨_, rfl⟩
    obtain ⟨V, hV⟩ : ∃ x, oN b = x := ⟨_, rfl⟩
    obtain ⟨E, hEe⟩ : ∃ x, oE b = x := ⟨_, rfl⟩
    obtain ⟨x, hx⟩ : ∃ x, oB b = x := ⟨_, rfl⟩
    obtain ⟨M, hM⟩ : ∃ M, x.length = M := ⟨_, rfl⟩
    obtain ⟨F, hF⟩ : ∃ x, sE b = x := ⟨_, rfl⟩
    obtain ⟨L, hL⟩ : ∃ x, sL b = x := ⟨_, rfl⟩
    obtain ⟨ok, hok⟩ : ∃ r, clOK k ct n2 t = r := ⟨_, rfl⟩
    have S1 := hide (fun W h => topen_B A n c b W h (by omega) P C T Z V E x M hP hC hT hZ hV hEe hx hM)
    have S2 := hide (fun W h => ropen_B A n c b W h (by omega) P C T Z V E x M hP hC hT hZ hV hEe hx hM)
    have S3 := hide (fun W => rmay_any k ct t A2 n2 c2 W (by omega) ok hok)
    have S4 := hide (fun W h => tsplit_any A n c b W h (by omega) F L hF hL)
    have S5 := hide (fun W h => rsplit_any A n c b W h (by omega) F L hF hL)
    have hS : ∀ (W : World), Bytes W A2 n2 c2 body → Calls Try.prog 37 #[.int .i64 k, .int .i64 ct, .slice A2 n2 c2, .int .i64 t] W fun e w' => ∃ A' N c' y E, e = .returned (.tuple #[.slice A' N c', .int .i64 E]) ∧ Bytes w' A' N c' y ∧ ((ok = false ∧ E = 1 ∧ N = 0) ∨ (ok = true ∧ E = 0 ∧ ∃ t' : Nat, t = (t' : Int) ∧ clOK k ct n2 t' = true ∧ clBytes k ct body t' = y)) ∧ Ext W w' := by
      intro W hW
      cases ok
      · exact (tclose_no k ct t A2 n2 c2 W (by omega) hok).mono fun e w' ⟨he, hE⟩ => ⟨none, 0, 0, [], 1, he, Bytes.nil _, .inl ⟨rfl, rfl, rfl⟩, hE⟩
      · obtain ⟨⟨h1, _⟩, _⟩ := cl_ok hok
        obtain ⟨t', rfl⟩ := Int.eq_ofNat_of_zero_le h1
        exact (tclose_ok k ct t' A2 n2 c2 body W hW hok _ rfl).mono fun e w' ⟨A', c', he, hB, hE⟩ => ⟨A', _, c', _, 0, he, hB, .inr ⟨rfl, rfl, t', rfl, hok, rfl⟩, hE⟩
    have S6 := hide hS
    have hxx : (x != x) = false := by simp
    have hxx2 : (x == x) = true := by simp
    clear hS hP hC hT hZ hV hEe hx hM hF hL hok
    go_enter Try.func9, Try.ntmps9
    go_wp2_with fail
    refine (awake11 _).mono ?_
    rintro e w1 ⟨rfl, hE⟩
    replace hh := hh.ext hE
    replace hb := hb.ext hE
    go_wp2_with fail
    refine (S1.out _ hb).mono ?_
    rintro e w2 ⟨A3, c3, rfl, hB3, hE2⟩
    have hbk := Blk.new w2 62 #[.bool P, .int .i64 (C : Int), .int .i64 (T : Int), .int .i64 (Z : Int)]
    have hE3 := hE2.alloc (.cells #[.bool P, .int .i64 (C : Int), .int .i64 (T : Int), .int .i64 (Z : Int)] 62)
    replace hB3 := hB3.alloc (.cells #[.bool P, .int .i64 (C : Int), .int .i64 (T : Int), .int .i64 (Z : Int)] 62)
    replace hE := hE.trans hE3
    replace hb := hb.ext hE3
    replace hh := hh.ext hE3
    clear hE3 S1 hE2
    go_wp2_with fail
    refine (S2.out _ hb).mono ?_
    rintro e w3 ⟨A4, c4, rfl, hB4, hE2⟩
    replace hE := hE.trans hE2
    replace hb := hb.ext hE2
    replace hh := hh.ext hE2
    replace hB3 := hB3.ext hE2
    replace hbk := hbk.below hE2 hbk.lt
    clear hE2 S2
    have hbq := Blk.new w3 66 #[.bool P, .int .i64 (C : Int), .int .i64 (T : Int), .int .i64 (Z : Int), .slice A4 M c4, .int .i64 (V : Int)]
    have hE3 := (Ext.refl w3).alloc (.cells #[.bool P, .int .i64 (C : Int), .int .i64 (T : Int), .int .i64 (Z : Int), .slice A4 M c4, .int .i64 (V : Int)] 66)
    replace hE := hE.trans hE3
    replace hb := hb.ext hE3
    replace hh := hh.ext hE3
    replace hB3 := hB3.ext hE3
    replace hB4 := hB4.ext hE3
    replace hbk := hbk.below hE3 hbk.lt
    clear hE3
    obtain ⟨⟨u0, u1, u2, u3⟩, _, _⟩ := hbk.four
    obtain ⟨⟨v0, v1, v2, v3, v4, v5⟩, _, _⟩ := hbq.six
    have s1 := run_str hB3
    have s2 := run_str hB4
    go_wp2_with fail
    clear u0 u1 u2 u3 v0 v1 v2 v3 v4 v5 s1 s2
    refine (S6.out _ hh).mono ?_
    rintro e w5 ⟨A5, N, c5, y, E5, rfl, hY, hc, hE2⟩
    have HC := hide hc
    replace hE := hE.trans hE2
    replace hb := hb.ext hE2
    replace hh := hh.ext hE2
    clear hE2 S6 hbk hbq hB3 hB4 hc
    go_wp2_with fail
    refine (S3.out _).mono ?_
    rintro e w6 ⟨rfl, hE2⟩
    replace hE := hE.trans hE2
    replace hb := hb.ext hE2
    replace hh := hh.ext hE2
    replace hY := hY.ext hE2
    clear hE2 S3
    rcases HC.out with ⟨rfl, rfl, rfl⟩ | ⟨rfl, rfl, t', rfl, h1, h2⟩
    · clear HC
      go_wp2_with fail
      refine (S4.out _ hb).mono ?_
      rintro e wa ⟨Ap, cp, rfl, hp, hE2⟩
      replace hE := hE.trans hE2
      replace hb := hb.ext hE2
      clear hE2 S4
      go_wp2_with fail
      refine (S5.out _ hb).mono ?_
      rintro e wb ⟨Aq, cq, rfl, hq, hE2⟩
      replace hp := hp.ext hE2
      go_wp2_with fail
      refine (rlists_any _ _ _ L _ _ _ L _ hp hq true (by simp)).mono ?_
      rintro e wc ⟨rfl, hE3⟩
      go_wp2_with fail
      go_ret
      exact ⟨rfl, (hE.trans hE2).trans hE3⟩
    · have S7 := hide (fun W h => rclose_ok k ct t' A2 n2 c2 body W h h1 y h2)
      clear HC h1 h2
      go_upto_region 11 with fail
      refine regE_start (by kernel_rfl) ?_
      have hR := (Ext.refl w6).drew
      generalize hgw : (w6).drew = wr0 at *
      clear hgw
      refine regE_take (i := 0) (v := ?_) rfl (by kernel_rfl) (by kernel_rfl) (by kernel_rfl) (fun _ _ _ h => h) (by rfl) ?_ ?_
      rotate_left
      · intro W hW; go_simp; try with_reducible rfl
      simp only [Act.put, List.setIfInBounds_toArray, List.set_cons_zero, List.set_cons_succ]
      refine regE_take (i := 1) (v := ?_) rfl (by kernel_rfl) (by kernel_rfl) (by kernel_rfl) (fun _ _ _ h => h) (by rfl) ?_ ?_
      rotate_left
      · intro W hW; go_simp; try with_reducible rfl
      simp only [Act.put, List.setIfInBounds_toArray, List.set_cons_zero, List.set_cons_succ]
      refine regE_take (i := 2) (v := ?_) rfl (by kernel_rfl) (by kernel_rfl) (by kernel_rfl) (fun _ _ _ h => h) (by rfl) ?_ ?_
      rotate_left
      · intro W hW; go_simp; try with_reducible rfl
      simp only [Act.put, List.setIfInBounds_toArray, List.set_cons_zero, List.set_cons_succ]
      refine regE_take (i := 3) (v := ?_) rfl (by kernel_rfl) (by kernel_rfl) (by kernel_rfl) (fun _ _ _ h => h) (by rfl) ?_ ?_
      rotate_left
      · intro W hW; go_simp; try with_reducible rfl
      simp only [Act.put, List.setIfInBounds_toArray, List.set_cons_zero, List.set_cons_succ]
      refine regE_take (i := 4) (v := ?_) rfl (by kernel_rfl) (by kernel_rfl) (by kernel_rfl) (fun _ _ _ h => h) (by rfl) ?_ ?_
      rotate_left
      · intro W hW; have s1 := run_str (hY.ext hW); go_simp; try with_reducible rfl
      simp only [Act.put, List.setIfInBounds_toArray, List.set_cons_zero, List.set_cons_succ]
      refine regE_take (i := 5) (v := ?_) rfl (by kernel_rfl) (by kernel_rfl) (by kernel_rfl) (fun _ _ _ h => h) (by rfl) ?_ ?_
      rotate_left
      · intro W hW; go_simp; try with_reducible rfl
      simp only [Act.put, List.setIfInBounds_toArray, List.set_cons_zero, List.set_cons_succ]
      refine regE_take (i := 6) (v := ?_) rfl (by kernel_rfl) (by kernel_rfl) (by kernel_rfl) (fun _ _ _ h => h) (by rfl) ?_ ?_
      rotate_left
      · intro W hW; go_simp; try with_reducible rfl
      simp only [Act.put, List.setIfInBounds_toArray, List.set_cons_zero, List.set_cons_succ]
      refine regE_take (i := 7) (v := ?_) rfl (by kernel_rfl) (by kernel_rfl) (by kernel_rfl) (fun _ _ _ h => h) (by rfl) ?_ ?_
      rotate_left
      · intro W hW; go_simp; try with_reducible rfl
      simp only [Act.put, List.setIfInBounds_toArray, List.set_cons_zero, List.set_cons_succ]
      refine regE_take (i := 8) (v := ?_) rfl (by kernel_rfl) (by kernel_rfl) (by kernel_rfl) (fun _ _ _ h => h) (by rfl) ?_ ?_
      rotate_left
      · intro W hW; go_simp; try with_reducible rfl
      simp only [Act.put, List.setIfInBounds_toArray, List.set_cons_zero, List.set_cons_succ]
      refine regE_do (i := 9) rfl (by kernel_rfl) (fun K hK => ?_)
      rw [if_pos (by rfl)]
      go_simp
      refine (S7.out _ (hh.ext hR)).mono ?_
      rintro e wr1 ⟨Aw, cw, rfl, hW2, hXX⟩
      refine hK.out _ _ (hR.trans hXX) ?_
      clear hK K
      refine regE_raise ?_
      replace hR := hR.trans hXX
      try simp only [Act.put, List.setIfInBounds_toArray, List.set_cons_zero, List.set_cons_succ]
      refine regE_take (i := 10) (v := ?_) rfl (by kernel_rfl) (by kernel_rfl) (by kernel_rfl) (fun _ _ _ h => h) (by rfl) ?_ ?_
      rotate_left
      · intro W hW; have s1 := run_str (hW2.ext hW); go_simp; try with_reducible rfl
      simp only [Act.put, List.setIfInBounds_toArray, List.set_cons_zero, List.set_cons_succ]
      refine regE_take (i := 11) (v := ?_) rfl (by kernel_rfl) (by kernel_rfl) (by kernel_rfl) (fun _ _ _ h => h) (by rfl) ?_ ?_
      rotate_left
      · intro W hW; go_simp; try with_reducible rfl
      simp only [Act.put, List.setIfInBounds_toArray, List.set_cons_zero, List.set_cons_succ]
      refine regE_take (i := 12) (v := ?_) rfl (by kernel_rfl) (by kernel_rfl) (by kernel_rfl) (fun _ _ _ h => h) (by rfl) ?_ ?_
      rotate_left
      · intro W hW; go_simp; try with_reducible rfl
      simp only [Act.put, List.setIfInBounds_toArray, List.set_cons_zero, List.set_cons_succ]
      refine regE_done (by kernel_rfl) ?_
      replace hE := hE.trans hR
      replace hb := hb.ext hR
      clear hR S7 hW2 hY hh
      go_wp2_with fail
      refine (S4.out _ hb).mono ?_
      rintro e wa ⟨Ap, cp, rfl, hp, hE2⟩
      replace hE := hE.trans hE2
      replace hb := hb.ext hE2
      clear hE2 S4
      go_wp2_with fail
      refine (S5.out _ hb).mono ?_
      rintro e wb ⟨Aq, cq, rfl, hq, hE2⟩
      replace hp := hp.ext hE2
      go_wp2_with fail
      refine (rlists_any _ _ _ L _ _ _ L _ hp hq true (by simp)).mono ?_
      rintro e wc ⟨rfl, hE3⟩
      go_wp2_with fail
      go_ret
      exact ⟨rfl, (hE.trans hE2).trans hE3⟩
end Go.Proofs.Ythepndimhiieiaa

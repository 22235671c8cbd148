/- RembLeast: the walk. -/
import Derived.Test.YthepndimhiieiaaRembC
namespace Go.Proofs.Ythepndimhiieiaa
open Go.RowKit
set_option maxRecDepth 100000 in
set_option maxHeartbeats 16000000 in
theorem law_rembleast (v v2 x m : Nat) (hv : v < 18446744073709551616) (hv2 : v2 < 18446744073709551616) (hx : x < 256) (hm : m < 4294967296) (w : World) :
    Calls Try.prog 14 #[.int .u64 (v : Int), .int .u64 (v2 : Int), .int .u8 (x : Int), .int .u32 (m : Int)] w fun e w' => e = .returned (.bool true) ∧ Ext w w' := by
  obtain ⟨X, hX⟩ : ∃ X, ofX v = X := ⟨_, rfl⟩
  obtain ⟨M, hM⟩ : ∃ M, ofM v = M := ⟨_, rfl⟩
  obtain ⟨N, hN⟩ : ∃ N, ofV v = N := ⟨_, rfl⟩
  obtain ⟨X2, hX2⟩ : ∃ X, ofX v2 = X := ⟨_, rfl⟩
  obtain ⟨M2, hM2⟩ : ∃ M, ofM v2 = M := ⟨_, rfl⟩
  obtain ⟨N2, hN2⟩ : ∃ N, ofV v2 = N := ⟨_, rfl⟩
  have hXl := ofX_le v hv
  have hXl2 := ofX_le v2 hv2
  have hMl := ofM_lt v hv
  have hMl2 := ofM_lt v2 hv2
  have hva := of_val v hv
  have hva2 := of_val v2 hv2
  have hra := of_right v hv
  rw [hX] at hXl hva hra
  rw [hM] at hMl hva hra
  rw [hX2] at hXl2 hva2
  rw [hM2] at hMl2 hva2
  rw [hN] at hva
  rw [hN2] at hva2
  have S1 := hide (fun W => of17 v hv X M hX hM W)
  have S2 := hide (fun W => value17 X M (by omega) (by omega) none 0 0 N hva W)
  have S3 := hide (fun W => right17 (X : Int) M none 0 0 W)
  rw [hra] at S3
  have S4 := hide (fun W => of17 v2 hv2 X2 M2 hX2 hM2 W)
  have S5 := hide (fun W => value17 X2 M2 (by omega) (by omega) none 0 0 N2 hva2 W)
  have n1 := of_le v
  have n2 := of_near v hv
  have n3 := of_mono v v2 hv hv2
  have n4 := of_mono v2 v hv2 hv
  rw [hN] at n1 n2 n3 n4
  rw [hN2] at n3 n4
  obtain ⟨n2, n5⟩ := n2
  obtain ⟨x1, hx1⟩ : ∃ x1, x % 64 = x1 := ⟨_, rfl⟩
  obtain ⟨m1, hm1⟩ : ∃ m1, m % 262144 = m1 := ⟨_, rfl⟩
  have hx1i : (x : Int) % 64 = (x1 : Int) := by omega
  have hm1i : (m : Int) % 262144 = (m1 : Int) := by omega
  have hx1l : x1 < 64 := by omega
  have hm1l : m1 < 262144 := by omega
  obtain ⟨r, hr⟩ : ∃ r, rbRight (x1 : Int) m1 0 = r := ⟨_, rfl⟩
  have S6 := hide (fun W => right17 (x1 : Int) m1 none 0 0 W)
  rw [hr] at S6
  have t7 : (r = false ∧ ∀ W, Calls Try.prog 55 #[.agg #[.int .i64 (x1 : Int), .int .u32 (m1 : Int), .slice none 0 0]] W fun e w' => e = .returned (.int .u64 0) ∧ Ext W w') ∨
      (r = true ∧ decide ((x1 : Int) ≤ 46) = false ∧ ∀ W, Calls Try.prog 55 #[.agg #[.int .i64 (x1 : Int), .int .u32 (m1 : Int), .slice none 0 0]] W fun e w' => e = .returned (.int .u64 18446744073709551615) ∧ Ext W w') ∨
      (r = true ∧ decide ((x1 : Int) ≤ 46) = true ∧ ∃ ki : Int, (∀ W, Calls Try.prog 55 #[.agg #[.int .i64 (x1 : Int), .int .u32 (m1 : Int), .slice none 0 0]] W fun e w' => e = .returned (.int .u64 ki) ∧ Ext W w') ∧
        ∀ W, Calls Try.prog 53 #[.int .u64 ki] W fun e w' => e = .returned (.agg #[.int .i64 (x1 : Int), .int .u32 (m1 : Int), .slice none 0 0]) ∧ Ext W w') := by
    cases r with
    | false => exact .inl ⟨rfl, fun W => value17 x1 m1 (by omega) (by omega) none 0 0 0 (by unfold rbVal; rw [hr]; rfl) W⟩
    | true =>
      by_cases h46 : x1 ≤ 46
      · obtain ⟨a1, a2, a3, a4⟩ := val_fits x1 m1 hr h46
        exact .inr (.inr ⟨rfl, decide_eq_true (by omega), ((m1 * 2 ^ x1 : Nat) : Int), fun W => value17 x1 m1 (by omega) (by omega) none 0 0 _ a1 W, fun W => of17 _ a2 x1 m1 a3 a4 W⟩)
      · exact .inr (.inl ⟨rfl, decide_eq_false (by omega), fun W => value17 x1 m1 (by omega) (by omega) none 0 0 18446744073709551615 (val_big x1 m1 hr (by omega)) W⟩)
  have S9 := hide (fun W => same17 (x1 : Int) m1 none 0 0 [] (x1 : Int) m1 none 0 0 [] W (Els.nil _) (Els.nil _) true (by simp))
  have T7 := hide t7
  clear t7
  have k4 : ((N : Int) = (v : Int) ∧ (N : Int) < 262144 ∧ decide ((N : Int) / 131072 < 0) = false) ∨ (decide ((v : Int) < 262144) = false ∧ decide ((v : Int) < (N : Int)) = false ∧ ∃ D : Nat, IntKind.u64.wrap ((v : Int) - (N : Int)) = (D : Int) ∧ decide ((v : Int) / 131072 < (D : Int)) = false) := by
    by_cases h : v < 262144
    · have := n5 h
      exact .inl ⟨by omega, by omega, decide_eq_false (by omega)⟩
    · exact .inr ⟨decide_eq_false (by omega), decide_eq_false (by omega), v - N, by rw [IntKind.wrap_u64]; omega, decide_eq_false (by omega)⟩
  have k5 : (decide ((v : Int) ≤ (v2 : Int)) = true ∧ decide ((N2 : Int) < (N : Int)) = false ∧ decide ((v2 : Int) ≤ (v : Int)) = false) ∨ (decide ((v : Int) ≤ (v2 : Int)) = false ∧ decide ((v2 : Int) ≤ (v : Int)) = true ∧ decide ((N : Int) < (N2 : Int)) = false) ∨ ((v2 : Int) = (v : Int) ∧ (N2 : Int) = (N : Int)) := by
    by_cases h : v < v2
    · exact .inl ⟨decide_eq_true (by omega), decide_eq_false (by have := n3 (by omega); omega), decide_eq_false (by omega)⟩
    · by_cases h2 : v2 < v
      · exact .inr (.inl ⟨decide_eq_false (by omega), decide_eq_true (by omega), decide_eq_false (by have := n4 (by omega); omega)⟩)
      · exact .inr (.inr ⟨by omega, by have := n3 (by omega); have := n4 (by omega); omega⟩)
  have K4 := hide k4
  have K5 := hide k5
  clear hX hM hN hX2 hM2 hN2 hva hva2 hra n1 n2 n3 n4 n5 hr k4 k5 hx1 hm1
  clear hv hv2 hXl hXl2 hMl hMl2 hx1l hm1l
  have hx0 : (0 : Int) ≤ (x : Int) := by omega
  have hx2 : (x : Int) < 256 := by omega
  have hm0 : (0 : Int) ≤ (m : Int) := by omega
  have hm2 : (m : Int) < 4294967296 := by omega
  generalize (x : Int) = xi at *
  generalize (m : Int) = mi at *
  generalize (v : Int) = vi at *
  generalize (v2 : Int) = v2i at *
  generalize (N : Int) = Ni at *
  generalize (N2 : Int) = N2i at *
  clear hx hm
  clear v v2 N N2 x m
  go_enter Try.func14, Try.ntmps14
  go_wp2_with fail
  refine (awake17 _).mono ?_
  rintro e w1 ⟨rfl, hE⟩
  go_wp2_with fail
  refine (S1.out _).mono ?_
  rintro e w2 ⟨rfl, hE2⟩
  replace hE := hE.trans hE2
  have hbx := Blk.new w2 84 #[.int .i64 (X : Int), .int .u32 (M : Int), .slice none 0 0]
  have hE3 := hE.alloc (.cells #[.int .i64 (X : Int), .int .u32 (M : Int), .slice none 0 0] 84)
  clear hE hE2
  go_wp2_with fail
  refine (S2.out _).mono ?_
  rintro e w3 ⟨rfl, hE⟩
  replace hbx := hbx.below hE hbx.lt
  replace hE3 := hE3.trans hE
  clear hE
  obtain ⟨⟨u0, u1, u2⟩, _, _⟩ := hbx.three
  go_wp2_with fail
  refine (S3.out _).mono ?_
  rintro e w4 ⟨rfl, hE⟩
  replace hbx := hbx.below hE hbx.lt
  replace hE3 := hE3.trans hE
  clear hE u0 u1 u2
  obtain ⟨⟨u0, u1, u2⟩, _, _⟩ := hbx.three
  rcases K4.out with ⟨rfl, k7, k9⟩ | ⟨k7, k1, D, k2, k3⟩
  all_goals
    go_wp2_with fail
    refine (S4.out _).mono ?_
    rintro e w5 ⟨rfl, hE⟩
    replace hE3 := hE3.trans hE
    clear hE u0 u1 u2 hbx
    go_wp2_with fail
    refine (S5.out _).mono ?_
    rintro e w6 ⟨rfl, hE⟩
    replace hE3 := hE3.trans hE
    clear hE
    rcases K5.out with ⟨q1, q2, q3⟩ | ⟨q1, q2, q3⟩ | ⟨rfl, rfl⟩
  all_goals
    go_upto_if 71 with fail
    clear S1 S2 S3 S4 S5 K4 K5
  all_goals
    go_wp2_with fail
    have hbs := Blk.new w6 84 #[.int .i64 (x1 : Int), .int .u32 (m1 : Int), .slice none 0 0]
    replace hE3 := hE3.alloc (.cells #[.int .i64 (x1 : Int), .int .u32 (m1 : Int), .slice none 0 0] 84)
    refine (S6.out _).mono ?_
    rintro e w7 ⟨rfl, hE⟩
    replace hbs := hbs.below hE hbs.lt
    replace hE3 := hE3.trans hE
    clear hE
    obtain ⟨⟨u0, u1, u2⟩, _, _⟩ := hbs.three
    rcases T7.out with ⟨rfl, S7⟩ | ⟨rfl, h46, S7⟩ | ⟨rfl, h46, ki, S7, S8⟩
    · replace S7 := hide S7
      clear T7
      go_wp2_with fail
      refine (S7.out _).mono ?_
      rintro e w8 ⟨rfl, hE⟩
      go_wp2_with fail
      go_ret
      exact ⟨rfl, hE3.trans hE⟩
    · replace S7 := hide S7
      clear T7
      go_wp2_with fail
      refine (S7.out _).mono ?_
      rintro e w8 ⟨rfl, hE⟩
      replace hbs := hbs.below hE hbs.lt
      clear u0 u1 u2
      obtain ⟨⟨u0, u1, u2⟩, _, _⟩ := hbs.three
      go_wp2_with fail
      go_ret
      exact ⟨rfl, hE3.trans hE⟩
    · replace S7 := hide S7
      replace S8 := hide S8
      clear T7
      go_wp2_with fail
      refine (S7.out _).mono ?_
      rintro e w8 ⟨rfl, hE⟩
      replace hbs := hbs.below hE hbs.lt
      replace hE3 := hE3.trans hE
      clear u0 u1 u2 hE
      obtain ⟨⟨u0, u1, u2⟩, _, _⟩ := hbs.three
      go_wp2_with fail
      clear u0 u1 u2
      refine regE_start (by kernel_rfl) ?_
      have hR := (Ext.refl w8).drew
      generalize hgw : (w8).drew = wr0 at *
      clear hgw
      refine regE_take (i := 0) (v := ?_) rfl (by kernel_rfl) (by kernel_rfl) (by kernel_rfl) (fun _ _ _ h => h) (by rfl) ?_ ?_
      rotate_left
      · intro W hW; go_simp; try with_reducible rfl
      simp only [Act.put, List.setIfInBounds_toArray, List.set_cons_zero, List.set_cons_succ]
      refine regE_take (i := 2) (v := ?_) rfl (by kernel_rfl) (by kernel_rfl) (by kernel_rfl) (fun _ _ _ h => h) (by rfl) ?_ ?_
      rotate_left
      · intro W hW; obtain ⟨⟨u0, u1, u2⟩, _, _⟩ := (hbs.below hW hbs.lt).three; go_simp; try with_reducible rfl
      simp only [Act.put, List.setIfInBounds_toArray, List.set_cons_zero, List.set_cons_succ]
      refine regE_do (i := 1) rfl (by kernel_rfl) (fun K hK => ?_)
      rw [if_pos (by rfl)]
      go_simp
      refine (S8.out _).mono ?_
      rintro e wr1 ⟨rfl, hXX⟩
      refine hK.out _ _ (hR.trans hXX) ?_
      clear hK K
      replace hR := hR.trans hXX
      clear hXX
      try simp only [Act.put, List.setIfInBounds_toArray, List.set_cons_zero, List.set_cons_succ]
      refine regE_do (i := 3) rfl (by kernel_rfl) (fun K hK => ?_)
      rw [if_pos (by rfl)]
      go_simp
      refine (S9.out _).mono ?_
      rintro e wr2 ⟨rfl, hXX⟩
      refine hK.out _ _ (hR.trans hXX) ?_
      clear hK K
      replace hR := hR.trans hXX
      clear hXX
      try simp only [Act.put, List.setIfInBounds_toArray, List.set_cons_zero, List.set_cons_succ]
      refine regE_take (i := 4) (v := ?_) rfl (by kernel_rfl) (by kernel_rfl) (by kernel_rfl) (fun _ _ _ h => h) (by rfl) ?_ ?_
      rotate_left
      · intro W hW; go_simp; try with_reducible rfl
      simp only [Act.put, List.setIfInBounds_toArray, List.set_cons_zero, List.set_cons_succ]
      refine regE_done (by kernel_rfl) ?_
      go_wp2_with fail
      go_ret
      exact ⟨rfl, hE3.trans hR⟩
end Go.Proofs.Ythepndimhiieiaa

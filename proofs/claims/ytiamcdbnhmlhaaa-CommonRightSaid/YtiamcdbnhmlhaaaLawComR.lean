/- CommonRight: the walk. -/
import Derived.Test.YtiamcdbnhmlhaaaLawCom
namespace Go.Proofs.Ytiamcdbnhmlhaaa
open Go.RowKit
set_option maxRecDepth 100000 in
set_option maxHeartbeats 1000000 in
theorem law_comright (p : Bool) (c t s : Int) (A : Option Addr) (n k : Nat) (b : List UInt8) (w : World) (hb : Bytes w A n k b) : Calls Try.prog 4 #[.agg #[.bool p, .int .i64 c, .int .i64 t, .int .i64 s], .slice A n k] w fun e w' => e = .returned (.bool true) ∧ Ext w w' := by
  have hbx := Blk.new w 32 #[.bool p, .int .i64 c, .int .i64 t, .int .i64 s]
  replace hb := hb.alloc (.cells #[.bool p, .int .i64 c, .int .i64 t, .int .i64 s] 32)
  have hE := (Ext.refl w).alloc (.cells #[.bool p, .int .i64 c, .int .i64 t, .int .i64 s] 32)
  by_cases hbig : 70000 < n
  · go_enter Try.func4, Try.ntmps4
    go_wp2_with fail
    refine (awake10 _).mono ?_
    rintro e w1 ⟨rfl, hE1⟩
    go_wp2_with fail
    go_ret
    exact ⟨rfl, hE.trans hE1⟩
  · have S1 := hide (fun W => rright_any p c t s W)
    have S3 := hide (fun W => cright_any p c t s W)
    have S4 := hide (fun W hb => cread_any A n k b W hb)
    have S5 := hide (fun W hb => rread_any A n k b W hb)
    have S6 := hide (fun W => cwrite_yes p c t s W)
    have S7 := hide (fun W => cwrite_no p c t s W)
    have S8 := hide (fun W => rwrite_yes p c t s W)
    obtain ⟨r, hr⟩ : ∃ r, cRight c t s = r := ⟨_, rfl⟩
    rw [hr] at S1 S3 S6 S7 S8
    obtain ⟨q, hq⟩ : ∃ q, cBytes p c t s = q := ⟨_, rfl⟩
    rw [hq] at S6 S8
    obtain ⟨e1, he1⟩ : ∃ e1, cE b = e1 := ⟨_, rfl⟩
    obtain ⟨e2, he2⟩ : ∃ e1, cP b = e1 := ⟨_, rfl⟩
    obtain ⟨e3, he3⟩ : ∃ e1, cC b = e1 := ⟨_, rfl⟩
    obtain ⟨e4, he4⟩ : ∃ e1, cT b = e1 := ⟨_, rfl⟩
    obtain ⟨e5, he5⟩ : ∃ e1, cS b = e1 := ⟨_, rfl⟩
    rw [he1, he2, he3, he4, he5] at S4 S5
    clear hr hq he1 he2 he3 he4 he5
    go_enter Try.func4, Try.ntmps4
    go_wp2_with fail
    refine (awake10 _).mono ?_
    rintro e w1 ⟨rfl, hE1⟩
    replace hbx := hbx.below hE1 (by simp)
    replace hE := hE.trans hE1
    replace hb := hb.ext hE1
    clear hE1
    obtain ⟨⟨u0, u1, u2, u3⟩, _, hlt⟩ := hbx.four
    go_wp2_with fail
    refine (S1.out _).mono ?_
    rintro e w2 ⟨rfl, hE2⟩
    replace hbx := hbx.below hE2 hlt
    replace hE := hE.trans hE2
    replace hb := hb.ext hE2
    clear hE2 hlt u0 u1 u2 u3
    obtain ⟨⟨u0, u1, u2, u3⟩, _, hlt⟩ := hbx.four
    go_wp2_with fail
    cases r
    · refine (S7.out _ rfl).mono ?_
      rintro e w3 ⟨rfl, hE3⟩
      replace hbx := hbx.below hE3 hlt
      replace hE := hE.trans hE3
      replace hb := hb.ext hE3
      clear hE3 hlt u0 u1 u2 u3
      obtain ⟨⟨u0, u1, u2, u3⟩, _, hlt⟩ := hbx.four
      go_wp2_with fail
      clear hlt u0 u1 u2 u3
      have hbl := hbx.lt
      obtain ⟨⟨u0, u1, u2, u3⟩, _, hlt⟩ := hbx.four
      go_wp2_with fail
      refine (S4.out _ hb).mono ?_
      rintro e w5 ⟨rfl, hE5⟩
      have hby := Blk.new w5 32 #[.bool e2, .int .i64 e3, .int .i64 e4, .int .i64 e5]
      replace hE5 := hE5.alloc (.cells #[.bool e2, .int .i64 e3, .int .i64 e4, .int .i64 e5] 32)
      replace hbx := hbx.below hE5 hbl
      replace hE := hE.trans hE5
      replace hb := hb.ext hE5
      clear hE5 hlt u0 u1 u2 u3 hbl
      have hbl := hbx.lt
      go_wp2_with fail
      refine (S5.out _ hb).mono ?_
      rintro e w6 ⟨rfl, hE6⟩
      replace hE6 := hE6.alloc (.cells #[.bool e2, .int .i64 e3, .int .i64 e4, .int .i64 e5] 32)
      have hbz := Blk.new w6 32 #[.bool e2, .int .i64 e3, .int .i64 e4, .int .i64 e5]
      replace hbx := hbx.below hE6 hbl
      replace hby := hby.below hE6 (by simp)
      replace hE := hE.trans hE6
      clear hE6 hb hbl
      obtain ⟨⟨u0, u1, u2, u3⟩, _, hlt⟩ := hbx.four
      obtain ⟨⟨v0, v1, v2, v3⟩, _, hlt2⟩ := hby.four
      obtain ⟨⟨z0, z1, z2, z3⟩, _, hlt3⟩ := hbz.four
      go_wp2_with fail
      refine (S3.out _).mono ?_
      rintro e w7 ⟨rfl, hE7⟩
      replace hE := hE.trans hE7
      have hl2 := hby.lt
      have hl3 := hbz.lt
      replace hby := hby.below hE7 hl2
      replace hbz := hbz.below hE7 hl3
      clear hE7 hl2 hl3 hlt u0 u1 u2 u3 v0 v1 v2 v3 hlt2 z0 z1 z2 z3 hlt3
      obtain ⟨⟨v0, v1, v2, v3⟩, _, hlt2⟩ := hby.four
      obtain ⟨⟨z0, z1, z2, z3⟩, _, hlt3⟩ := hbz.four
      have s2 := fun w => eql_common e2 e2 e3 e4 e5 e3 e4 e5 w
      have hK : (e2 == e2 && (e3 : Int) == e3 && (e4 : Int) == e4 && (e5 : Int) == e5) = true := by simp
      rw [hK] at s2
      clear hK
      go_wp2_with fail
      go_ret
      exact ⟨rfl, hE⟩
    · refine (S6.out _ rfl).mono ?_
      rintro e w3 ⟨A3, k3, rfl, hB3, hE3⟩
      replace hbx := hbx.below hE3 hlt
      replace hE := hE.trans hE3
      replace hb := hb.ext hE3
      clear hE3 hlt u0 u1 u2 u3
      go_wp2_with fail
      have F0 := hide (fun W (hW : Ext w3 W) => (hbx.below hW hbx.lt).four)
      have f0 := fun W hW => (F0.out W hW).1.1
      have f1 := fun W hW => (F0.out W hW).1.2.1
      have f2 := fun W hW => (F0.out W hW).1.2.2.1
      have f3 := fun W hW => (F0.out W hW).1.2.2.2
      have f4 := fun W hW => (F0.out W hW).2.2
      refine regE_start (by kernel_rfl) ?_
      refine regE_take (i := 0) (v := ?_) rfl (by kernel_rfl) (by kernel_rfl) (by kernel_rfl) (fun _ _ _ h => h) (by rfl) ?_ ?_
      rotate_left
      · intro W hW; go_simp; try with_reducible rfl
      simp only [Act.put, List.setIfInBounds_toArray, List.set_cons_zero, List.set_cons_succ]
      refine regE_take (i := 1) (v := ?_) rfl (by kernel_rfl) (by kernel_rfl) (by kernel_rfl) (fun _ _ _ h => h) (by rfl) ?_ ?_
      rotate_left
      · intro W hW; go_simp; try with_reducible rfl
      simp only [Act.put, List.setIfInBounds_toArray, List.set_cons_zero, List.set_cons_succ]
      refine regE_take (i := 2) (v := ?_) rfl (by kernel_rfl) (by kernel_rfl) (by kernel_rfl) (fun _ _ _ h => h) (by rfl) ?_ ?_
      rotate_left
      · intro W hW; go_simp; try with_reducible rfl
      simp only [Act.put, List.setIfInBounds_toArray, List.set_cons_zero, List.set_cons_succ]
      refine regE_take (i := 3) (v := ?_) rfl (by kernel_rfl) (by kernel_rfl) (by kernel_rfl) (fun _ _ _ h => h) (by rfl) ?_ ?_
      rotate_left
      · intro W hW; go_simp; try with_reducible rfl
      simp only [Act.put, List.setIfInBounds_toArray, List.set_cons_zero, List.set_cons_succ]
      refine regE_take (i := 4) (v := ?_) rfl (by kernel_rfl) (by kernel_rfl) (by kernel_rfl) (fun _ _ _ h => h) (by rfl) ?_ ?_
      rotate_left
      · intro W hW; have s1 := run_str (hB3.ext hW); go_simp; try with_reducible rfl
      simp only [Act.put, List.setIfInBounds_toArray, List.set_cons_zero, List.set_cons_succ]
      refine regE_take (i := 5) (v := ?_) rfl (by kernel_rfl) (by kernel_rfl) (by kernel_rfl) (fun _ _ _ h => h) (by rfl) ?_ ?_
      rotate_left
      · intro W hW; go_simp; try with_reducible rfl
      simp only [Act.put, List.setIfInBounds_toArray, List.set_cons_zero, List.set_cons_succ]
      refine regE_do (i := 6) rfl (by kernel_rfl) (fun K hK => ?_)
      rw [if_pos (by rfl)]
      go_simp
      refine (S8.out _ trivial).mono ?_
      rintro e w4 ⟨A4, k4, rfl, hB4, hE4⟩
      refine hK.out _ _ (((Ext.refl _).drew).trans hE4) ?_
      clear hK K
      refine regE_raise ?_
      try simp only [Act.put, List.setIfInBounds_toArray, List.set_cons_zero, List.set_cons_succ]
      refine regE_take (i := 7) (v := ?_) rfl (by kernel_rfl) (by kernel_rfl) (by kernel_rfl) (fun _ _ _ h => h) (by rfl) ?_ ?_
      rotate_left
      · intro W hW; have s1 := run_str (hB4.ext hW); go_simp; try with_reducible rfl
      simp only [Act.put, List.setIfInBounds_toArray, List.set_cons_zero, List.set_cons_succ]
      refine regE_take (i := 8) (v := ?_) rfl (by kernel_rfl) (by kernel_rfl) (by kernel_rfl) (fun _ _ _ h => h) (by rfl) ?_ ?_
      rotate_left
      · intro W hW; go_simp; try with_reducible rfl
      simp only [Act.put, List.setIfInBounds_toArray, List.set_cons_zero, List.set_cons_succ]
      refine regE_take (i := 9) (v := ?_) rfl (by kernel_rfl) (by kernel_rfl) (by kernel_rfl) (fun _ _ _ h => h) (by rfl) ?_ ?_
      rotate_left
      · intro W hW; go_simp; try with_reducible rfl
      simp only [Act.put, List.setIfInBounds_toArray, List.set_cons_zero, List.set_cons_succ]
      refine regE_done (by kernel_rfl) ?_
      replace hE4 := ((Ext.refl _).drew).trans hE4
      replace hbx := hbx.below hE4 hbx.lt
      replace hE := hE.trans hE4
      replace hb := hb.ext hE4
      clear F0 f0 f1 f2 f3 f4 hE4 hB4 hB3
      have hbl := hbx.lt
      obtain ⟨⟨u0, u1, u2, u3⟩, _, hlt⟩ := hbx.four
      go_wp2_with fail
      refine (S4.out _ hb).mono ?_
      rintro e w5 ⟨rfl, hE5⟩
      have hby := Blk.new w5 32 #[.bool e2, .int .i64 e3, .int .i64 e4, .int .i64 e5]
      replace hE5 := hE5.alloc (.cells #[.bool e2, .int .i64 e3, .int .i64 e4, .int .i64 e5] 32)
      replace hbx := hbx.below hE5 hbl
      replace hE := hE.trans hE5
      replace hb := hb.ext hE5
      clear hE5 hlt u0 u1 u2 u3 hbl
      have hbl := hbx.lt
      go_wp2_with fail
      refine (S5.out _ hb).mono ?_
      rintro e w6 ⟨rfl, hE6⟩
      replace hE6 := hE6.alloc (.cells #[.bool e2, .int .i64 e3, .int .i64 e4, .int .i64 e5] 32)
      have hbz := Blk.new w6 32 #[.bool e2, .int .i64 e3, .int .i64 e4, .int .i64 e5]
      replace hbx := hbx.below hE6 hbl
      replace hby := hby.below hE6 (by simp)
      replace hE := hE.trans hE6
      clear hE6 hb hbl
      obtain ⟨⟨u0, u1, u2, u3⟩, _, hlt⟩ := hbx.four
      obtain ⟨⟨v0, v1, v2, v3⟩, _, hlt2⟩ := hby.four
      obtain ⟨⟨z0, z1, z2, z3⟩, _, hlt3⟩ := hbz.four
      go_wp2_with fail
      refine (S3.out _).mono ?_
      rintro e w7 ⟨rfl, hE7⟩
      replace hE := hE.trans hE7
      have hl2 := hby.lt
      have hl3 := hbz.lt
      replace hby := hby.below hE7 hl2
      replace hbz := hbz.below hE7 hl3
      clear hE7 hl2 hl3 hlt u0 u1 u2 u3 v0 v1 v2 v3 hlt2 z0 z1 z2 z3 hlt3
      obtain ⟨⟨v0, v1, v2, v3⟩, _, hlt2⟩ := hby.four
      obtain ⟨⟨z0, z1, z2, z3⟩, _, hlt3⟩ := hbz.four
      have s2 := fun w => eql_common e2 e2 e3 e4 e5 e3 e4 e5 w
      have hK : (e2 == e2 && (e3 : Int) == e3 && (e4 : Int) == e4 && (e5 : Int) == e5) = true := by simp
      rw [hK] at s2
      clear hK
      go_wp2_with fail
      go_ret
      exact ⟨rfl, hE⟩
end Go.Proofs.Ytiamcdbnhmlhaaa

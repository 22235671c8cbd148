/- CommonBack: the walk. -/
import Derived.Test.YtiamcdbnhmlhaaaLawCom
import Derived.Test.YtiamcdbnhmlhaaaPlainComB
import Derived.Test.YtiamcdbnhmlhaaaAppZ
import Derived.Deep.DeepCutAuto
import Derived.BigQuiet
namespace Go.Proofs.Ytiamcdbnhmlhaaa
open Go.RowKit
theorem cwrite_gen (p : Bool) (c t s : Int) (w : World) : Calls Try.prog 16 #[.agg #[.bool p, .int .i64 c, .int .i64 t, .int .i64 s]] w fun e w' =>
    ∃ A n k x E, e = .returned (.tuple #[.slice A n k, .int .i64 E]) ∧ Bytes w' A n k x ∧ (cRight c t s = true → n = 4 ∧ E = 0 ∧ x = cBytes p c t s) ∧ (cRight c t s = false → n = 0 ∧ E = 1) ∧ Ext w w' := by
  cases h : cRight c t s
  · exact (cwrite_no p c t s w h).mono fun e w' ⟨he, hE⟩ => ⟨none, 0, 0, [], 1, he, Bytes.nil w', by simp, by simp, hE⟩
  · exact (cwrite_yes p c t s w h).mono fun e w' ⟨A, k, he, hB, hE⟩ => ⟨A, 4, k, _, 0, he, hB, by simp, by simp, hE⟩
set_option maxRecDepth 100000 in
set_option maxHeartbeats 2000000 in
theorem law_comback (p : Bool) (c t s : Int) (q : Bool) (c' t' s' : Int) (A : Option Addr) (n k : Nat) (b : List UInt8) (less : Nat) (hless : less < 65536) (w : World) (hb : Bytes w A n k b) : Calls Try.prog 5 #[.agg #[.bool p, .int .i64 c, .int .i64 t, .int .i64 s], .agg #[.bool q, .int .i64 c', .int .i64 t', .int .i64 s'], .slice A n k, .int .u16 less] w fun e w' => e = .returned (.bool true) ∧ Ext w w' := by
  have hbx := (Blk.new w 32 #[.bool p, .int .i64 c, .int .i64 t, .int .i64 s]).alloc (.cells #[.bool q, .int .i64 c', .int .i64 t', .int .i64 s'] 32)
  have hby := Blk.new (w.alloc (.cells #[.bool p, .int .i64 c, .int .i64 t, .int .i64 s] 32)) 32 #[.bool q, .int .i64 c', .int .i64 t', .int .i64 s']
  rw [show (w.alloc (.cells #[.bool p, .int .i64 c, .int .i64 t, .int .i64 s] 32)).heap.size = w.heap.size + 1 by simp] at hby
  replace hb := (hb.alloc (.cells #[.bool p, .int .i64 c, .int .i64 t, .int .i64 s] 32)).alloc (.cells #[.bool q, .int .i64 c', .int .i64 t', .int .i64 s'] 32)
  have hE := ((Ext.refl w).alloc (.cells #[.bool p, .int .i64 c, .int .i64 t, .int .i64 s] 32)).alloc (.cells #[.bool q, .int .i64 c', .int .i64 t', .int .i64 s'] 32)
  by_cases hbig : 70000 < n
  · go_enter Try.func5, Try.ntmps5
    go_wp2_with fail
    refine (awake10 _).mono ?_
    rintro e w1 ⟨rfl, hE1⟩
    go_wp2_with fail
    go_ret
    exact ⟨rfl, hE.trans hE1⟩
  · have S1 := hide (fun W => cwrite_gen p c t s W)
    have S2 := hide (fun W => cwrite_gen q c' t' s' W)
    have S3 := hide (fun W hb => cread_any A n k b W hb)
    have S4 := hide (fun W => cright_any p c t s W)
    go_enter Try.func5, Try.ntmps5
    go_wp2_with fail
    refine (awake10 _).mono ?_
    rintro e w1 ⟨rfl, hE1⟩
    replace hbx := hbx.below hE1 (by simp; omega)
    replace hby := hby.below hE1 (by simp)
    replace hE := hE.trans hE1
    replace hb := hb.ext hE1
    clear hE1
    obtain ⟨⟨u0, u1, u2, u3⟩, _, hlt⟩ := hbx.four
    have hlt2 := hby.lt
    go_wp2_with fail
    refine (S1.out _).mono ?_
    rintro e w2 ⟨A1, n1, k1, x1, E1, rfl, hB1, hy1, hn1, hE2⟩
    replace hbx := hbx.below hE2 hlt
    replace hby := hby.below hE2 hlt2
    replace hE := hE.trans hE2
    replace hb := hb.ext hE2
    have HY1 := hide hy1
    have HN1 := hide hn1
    clear hE2 hlt hlt2 u0 u1 u2 u3 hy1 hn1 S1
    obtain ⟨⟨u0, u1, u2, u3⟩, _, hlt⟩ := hby.four
    have hlt2 := hbx.lt
    go_wp2_with fail
    refine (S2.out _).mono ?_
    rintro e w3 ⟨A2, n2, k2, x2, E2, rfl, hB2, hy2, hn2, hE2⟩
    replace hbx := hbx.below hE2 hlt2
    replace hby := hby.below hE2 hlt
    replace hE := hE.trans hE2
    replace hb := hb.ext hE2
    replace hB1 := hB1.ext hE2
    have HY2 := hide hy2
    have HN2 := hide hn2
    clear hE2 hlt hlt2 u0 u1 u2 u3 hy2 hn2 S2
    go_upto_region 7 with fail
    go_cut [54] (fun v wx => v = .bool false ∧ Ext w3 wx)
    case first =>
      cases hr : cRight c t s
      · obtain ⟨rfl, rfl⟩ := HN1.out hr
        clear HY1 HY2 HN2 HN1 hr S3 S4 hb hB1 hB2
        go_quiet (fail)
        go_wp2_with fail
        go_meet
        case rel => exact ⟨rfl, (Ext.refl _).drewN _⟩
      · obtain ⟨rfl, rfl, rfl⟩ := HY1.out hr
        cases hr2 : cRight c' t' s'
        · obtain ⟨rfl, rfl⟩ := HN2.out hr2
          clear HY1 HY2 HN2 HN1 hr hr2 S3 S4 hb hB1 hB2
          go_quiet (fail)
          go_wp2_with fail
          go_meet
          case rel => exact ⟨rfl, (Ext.refl _).drewN _⟩
        · obtain ⟨rfl, rfl, rfl⟩ := HY2.out hr2
          have hx := cB_inj (p := p) (q := q) hr hr2
          clear HY1 HY2 HN2 HN1 hr hr2 S3 S4 hb
          obtain ⟨x1, h1⟩ : ∃ x, cBytes p c t s = x := ⟨_, rfl⟩
          obtain ⟨x2, h2⟩ : ∃ x, cBytes q c' t' s' = x := ⟨_, rfl⟩
          rw [h1, h2] at hx
          rw [h1] at hB1
          rw [h2] at hB2
          have h3 := fun w => eql_common p q c t s c' t' s' w
          obtain ⟨r, hr⟩ : ∃ r, (p == q && c == c' && t == t' && s == s') = r := ⟨_, rfl⟩
          rw [hr] at h3 hx
          clear h1 h2 hr
          have F0 := hide (fun W (hW : Ext w3 W) => (hbx.below hW hbx.lt).four)
          have f0 := fun W hW => (F0.out W hW).1.1
          have f1 := fun W hW => (F0.out W hW).1.2.1
          have f2 := fun W hW => (F0.out W hW).1.2.2.1
          have f3 := fun W hW => (F0.out W hW).1.2.2.2
          have f4 := fun W hW => (F0.out W hW).2.2
          have G0 := hide (fun W (hW : Ext w3 W) => (hby.below hW hby.lt).four)
          have g0 := fun W hW => (G0.out W hW).1.1
          have g1 := fun W hW => (G0.out W hW).1.2.1
          have g2 := fun W hW => (G0.out W hW).1.2.2.1
          have g3 := fun W hW => (G0.out W hW).1.2.2.2
          have g4 := fun W hW => (G0.out W hW).2.2
          have hrr : (r != r) = false := by simp
          refine regE_start (by kernel_rfl) ?_
          refine regE_take (i := 0) (v := ?_) rfl (by kernel_rfl) (by kernel_rfl) (by kernel_rfl) (fun _ _ _ h => h) (by rfl) ?_ ?_
          rotate_left
          · intro W hW; go_simp; try with_reducible rfl
          simp only [Act.put, List.setIfInBounds_toArray, List.set_cons_zero, List.set_cons_succ]
          refine regE_take (i := 1) (v := ?_) rfl (by kernel_rfl) (by kernel_rfl) (by kernel_rfl) (fun _ _ _ h => h) (by rfl) ?_ ?_
          rotate_left
          · intro W hW; go_simp; try with_reducible rfl
          simp only [Act.put, List.setIfInBounds_toArray, List.set_cons_zero, List.set_cons_succ]
          refine regE_take (i := 2) (v := ?_) rfl (by kernel_rfl) (by kernel_rfl) (by kernel_rfl) (fun _ _ _ h => h) (by rfl) ?_ ?_
          rotate_left
          · intro W hW; go_simp; try with_reducible rfl
          simp only [Act.put, List.setIfInBounds_toArray, List.set_cons_zero, List.set_cons_succ]
          refine regE_take (i := 3) (v := ?_) rfl (by kernel_rfl) (by kernel_rfl) (by kernel_rfl) (fun _ _ _ h => h) (by rfl) ?_ ?_
          rotate_left
          · intro W hW; go_simp; try with_reducible rfl
          simp only [Act.put, List.setIfInBounds_toArray, List.set_cons_zero, List.set_cons_succ]
          refine regE_take (i := 4) (v := ?_) rfl (by kernel_rfl) (by kernel_rfl) (by kernel_rfl) (fun _ _ _ h => h) (by rfl) ?_ ?_
          rotate_left
          · intro W hW; go_simp; try with_reducible rfl
          simp only [Act.put, List.setIfInBounds_toArray, List.set_cons_zero, List.set_cons_succ]
          refine regE_take (i := 5) (v := ?_) rfl (by kernel_rfl) (by kernel_rfl) (by kernel_rfl) (fun _ _ _ h => h) (by rfl) ?_ ?_
          rotate_left
          · intro W hW; go_simp; try with_reducible rfl
          simp only [Act.put, List.setIfInBounds_toArray, List.set_cons_zero, List.set_cons_succ]
          refine regE_take (i := 6) (v := ?_) rfl (by kernel_rfl) (by kernel_rfl) (by kernel_rfl) (fun _ _ _ h => h) (by rfl) ?_ ?_
          rotate_left
          · intro W hW; go_simp; try with_reducible rfl
          simp only [Act.put, List.setIfInBounds_toArray, List.set_cons_zero, List.set_cons_succ]
          refine regE_take (i := 7) (v := ?_) rfl (by kernel_rfl) (by kernel_rfl) (by kernel_rfl) (fun _ _ _ h => h) (by rfl) ?_ ?_
          rotate_left
          · intro W hW; go_simp; try with_reducible rfl
          simp only [Act.put, List.setIfInBounds_toArray, List.set_cons_zero, List.set_cons_succ]
          refine regE_take (i := 8) (v := ?_) rfl (by kernel_rfl) (by kernel_rfl) (by kernel_rfl) (fun _ _ _ h => h) (by rfl) ?_ ?_
          rotate_left
          · intro W hW; have s1 := run_str (hB1.ext hW); go_simp; try with_reducible rfl
          simp only [Act.put, List.setIfInBounds_toArray, List.set_cons_zero, List.set_cons_succ]
          refine regE_take (i := 9) (v := ?_) rfl (by kernel_rfl) (by kernel_rfl) (by kernel_rfl) (fun _ _ _ h => h) (by rfl) ?_ ?_
          rotate_left
          · intro W hW; go_simp; try with_reducible rfl
          simp only [Act.put, List.setIfInBounds_toArray, List.set_cons_zero, List.set_cons_succ]
          refine regE_take (i := 10) (v := ?_) rfl (by kernel_rfl) (by kernel_rfl) (by kernel_rfl) (fun _ _ _ h => h) (by rfl) ?_ ?_
          rotate_left
          · intro W hW; have s1 := run_str (hB2.ext hW); go_simp; try with_reducible rfl
          simp only [Act.put, List.setIfInBounds_toArray, List.set_cons_zero, List.set_cons_succ]
          refine regE_take (i := 11) (v := ?_) rfl (by kernel_rfl) (by kernel_rfl) (by kernel_rfl) (fun _ _ _ h => h) (by rfl) ?_ ?_
          rotate_left
          · intro W hW; go_simp; try with_reducible rfl
          simp only [Act.put, List.setIfInBounds_toArray, List.set_cons_zero, List.set_cons_succ]
          refine regE_take (i := 12) (v := ?_) rfl (by kernel_rfl) (by kernel_rfl) (by kernel_rfl) (fun _ _ _ h => h) (by rfl) ?_ ?_
          rotate_left
          · intro W hW; go_simp; try with_reducible rfl
          simp only [Act.put, List.setIfInBounds_toArray, List.set_cons_zero, List.set_cons_succ]
          refine regE_take (i := 13) (v := ?_) rfl (by kernel_rfl) (by kernel_rfl) (by kernel_rfl) (fun _ _ _ h => h) (by rfl) ?_ ?_
          rotate_left
          · intro W hW; go_simp; try with_reducible rfl
          simp only [Act.put, List.setIfInBounds_toArray, List.set_cons_zero, List.set_cons_succ]
          refine regE_take (i := 14) (v := ?_) rfl (by kernel_rfl) (by kernel_rfl) (by kernel_rfl) (fun _ _ _ h => h) (by rfl) ?_ ?_
          rotate_left
          · intro W hW; go_simp; try with_reducible rfl
          simp only [Act.put, List.setIfInBounds_toArray, List.set_cons_zero, List.set_cons_succ]
          refine regE_take (i := 15) (v := ?_) rfl (by kernel_rfl) (by kernel_rfl) (by kernel_rfl) (fun _ _ _ h => h) (by rfl) ?_ ?_
          rotate_left
          · intro W hW; go_simp; try with_reducible rfl
          simp only [Act.put, List.setIfInBounds_toArray, List.set_cons_zero, List.set_cons_succ]
          refine regE_take (i := 16) (v := ?_) rfl (by kernel_rfl) (by kernel_rfl) (by kernel_rfl) (fun _ _ _ h => h) (by rfl) ?_ ?_
          rotate_left
          · intro W hW; go_simp; try with_reducible rfl
          simp only [Act.put, List.setIfInBounds_toArray, List.set_cons_zero, List.set_cons_succ]
          refine regE_done (by kernel_rfl) ?_
          go_wp2_with fail
          go_meet
          case rel => exact ⟨rfl, (Ext.refl _).drew⟩
    case rest =>
      obtain ⟨rfl, hE3⟩ := hcut
      replace hbx := hbx.below hE3 hbx.lt
      replace hE := hE.trans hE3
      replace hb := hb.ext hE3
      replace hB1 := hB1.ext hE3
      clear hE3 hB2 hby HY2 HN2
      go_upto_region 9 with fail
      go_cut [71] (fun v wx => v = .bool (cRight c t s && decide (s ≤ 3000)) ∧ wx = wc)
      case first =>
        have hlt := hbx.lt
        obtain ⟨⟨u0, u1, u2, u3⟩, _, _⟩ := hbx.four
        clear S3 S4 hb hB1 hE
        cases hr : cRight c t s
        · obtain ⟨rfl, rfl⟩ := HN1.out hr
          have HR := hide hr
          clear HY1 HN1 hr hbx
          go_wp2_with fail
          go_meet
          case rel => exact ⟨by simp [HR.out], rfl⟩
        · obtain ⟨rfl, rfl, rfl⟩ := HY1.out hr
          obtain ⟨_, _, _, _, h4, _, _⟩ := cRight_zero hr
          have HR := hide hr
          clear HY1 HN1 hr hbx
          by_cases h3 : s ≤ 3000
          · go_wp2_with fail
            go_meet
            case rel => exact ⟨by simp [h3, HR.out], rfl⟩
          · go_wp2_with fail
            go_meet
            case rel => exact ⟨by simp [h3, HR.out], rfl⟩
      case rest =>
        obtain ⟨rfl, rfl⟩ := hcut
        obtain ⟨z, hz⟩ : ∃ z, (cRight c t s && decide (s ≤ 3000)) = z := ⟨_, rfl⟩
        rw [hz]
        have HZ := hide hz
        clear hz
        go_upto_if 71 with fail
        go_cut [] (fun wx => Ext wc wx)
        case first =>
          cases hr : cRight c t s
          · obtain ⟨⟨u0, u1, u2, u3⟩, _, hlt⟩ := hbx.four
            obtain ⟨rfl, rfl⟩ := HN1.out hr
            rw [hr] at S4
            obtain rfl : z = false := by rw [← HZ.out, hr]; rfl
            clear HY1 HN1 hr
            go_wp2_with fail
            refine (S4.out _).mono ?_
            rintro e w5 ⟨rfl, hE5⟩
            go_wp2_with fail
            go_meet
            case rel => exact hE5
          · by_cases h3 : s ≤ 3000
            · obtain ⟨r1, r2, r3, r4, r5, r6, r7⟩ := cRight_zero hr
              obtain ⟨rfl, rfl, rfl⟩ := HY1.out hr
              obtain ⟨m, hm⟩ : ∃ m : Nat, s = ((4 + m : Nat) : Int) := ⟨(s - 4).toNat, by omega⟩
              have hw1 : IntKind.i64.wrap (s - 4) = (m : Int) := by rw [IntWalk.i64_in _ (by omega)]; omega
              have hm0 : m ≤ 2996 := by omega
              have HM := hide hm
              clear hm
              obtain rfl : z = true := by rw [← HZ.out, hr, decide_eq_true h3]; rfl
              have F0 := hide (fun W (hW : Ext wc W) => (hbx.below hW hbx.lt).four)
              have f0 := fun W hW => (F0.out W hW).1.1
              have f1 := fun W hW => (F0.out W hW).1.2.1
              have f2 := fun W hW => (F0.out W hW).1.2.2.1
              have f3 := fun W hW => (F0.out W hW).1.2.2.2
              have f4 := fun W hW => (F0.out W hW).2.2
              go_wp2_with fail
              refine regE_start (by kernel_rfl) ?_
              refine regE_take (i := 1) (v := ?_) rfl (by kernel_rfl) (by kernel_rfl) (by kernel_rfl) (fun _ _ _ h => h) (by rfl) ?_ ?_
              rotate_left
              · intro W hW; go_simp; try with_reducible rfl
              simp only [Act.put, List.setIfInBounds_toArray, List.set_cons_zero, List.set_cons_succ]
              refine regE_take (i := 3) (v := ?_) rfl (by kernel_rfl) (by kernel_rfl) (by kernel_rfl) (fun _ _ _ h => h) (by rfl) ?_ ?_
              rotate_left
              · intro W hW; go_simp; try with_reducible rfl
              simp only [Act.put, List.setIfInBounds_toArray, List.set_cons_zero, List.set_cons_succ]
              refine regE_take (i := 4) (v := ?_) rfl (by kernel_rfl) (by kernel_rfl) (by kernel_rfl) (fun _ _ _ h => h) (by rfl) ?_ ?_
              rotate_left
              · intro W hW; go_simp; try with_reducible rfl
              simp only [Act.put, List.setIfInBounds_toArray, List.set_cons_zero, List.set_cons_succ]
              refine regE_take (i := 5) (v := ?_) rfl (by kernel_rfl) (by kernel_rfl) (by kernel_rfl) (fun _ _ _ h => h) (by rfl) ?_ ?_
              rotate_left
              · intro W hW; go_simp; try with_reducible rfl
              simp only [Act.put, List.setIfInBounds_toArray, List.set_cons_zero, List.set_cons_succ]
              refine regE_do (i := 0) rfl (by kernel_rfl) (fun K hK => ?_)
              rw [if_pos (by rfl)]
              go_simp
              refine hK.out _ _ ((Ext.refl _).drew.alloc _) ?_
              clear hK K
              try simp only [Act.put, List.setIfInBounds_toArray, List.set_cons_zero, List.set_cons_succ]
              refine regE_do (i := 2) rfl (by kernel_rfl) (fun K hK => ?_)
              rw [if_pos (by rfl)]
              refine wp_appB wc.drew _ _ rfl ((Ext.refl _).alloc _) _ _ _ _ rfl (own_empty _) A1 4 k1 _ rfl (hB1.drew.alloc _) (by omega) ?_
              intro A5 c5 w5 hown5 hE5
              refine hK.out _ _ ((Ext.refl wc).drew.trans hE5) ?_
              clear hK K
              try simp only [Act.put, List.setIfInBounds_toArray, List.set_cons_zero, List.set_cons_succ]
              refine regE_do (i := 6) rfl (by kernel_rfl) (fun K hK => ?_)
              rw [if_pos (by rfl)]
              refine wp_appZ wc.drew _ _ rfl hE5 A5 (0 + 4) c5 _ rfl hown5 m .i64 rfl (by omega) ?_
              intro A6 c6 w6 hown6 hE6
              refine hK.out _ _ ((Ext.refl wc).drew.trans hE6) ?_
              clear hK K
              try simp only [Act.put, List.setIfInBounds_toArray, List.set_cons_zero, List.set_cons_succ]
              refine regE_take (i := 7) (v := ?_) rfl (by kernel_rfl) (by kernel_rfl) (by kernel_rfl) (fun _ _ _ h => h) (by rfl) ?_ ?_
              rotate_left
              · intro W hW; go_simp; try with_reducible rfl
              simp only [Act.put, List.setIfInBounds_toArray, List.set_cons_zero, List.set_cons_succ]
              refine regE_done (by kernel_rfl) ?_
              have hB6 := Bytes.own hown6
              rw [List.nil_append, show 0 + 4 + m = 4 + m by omega] at hB6
              have hEa := (Ext.refl wc).drew.trans hE6
              clear hE5 hE6 hown5 hown6 F0 f0 f1 f2 f3 f4 hw1
              obtain ⟨y0, y1, y2, y3, y4⟩ := cB_read (p := p) hr (List.replicate m 0) (by rw [List.length_replicate, HM.out]; exact Int.le_refl _)
              have hcutE := cB_cut (p := p) hr m (less % (4 + m)) HM.out (Nat.mod_lt _ (by omega))
              have S5 := hide (fun W A k hb => cread_any A (4 + m) k (cBytes p c t s ++ List.replicate m 0) W hb)
              rw [y0, y1, y2, y3, y4] at S5
              obtain ⟨X, hX⟩ : ∃ X, cBytes p c t s ++ List.replicate m 0 = X := ⟨_, rfl⟩
              rw [hX] at hB6 hcutE S5
              obtain ⟨kk, hkk⟩ : ∃ kk, less % (4 + m) = kk := ⟨_, rfl⟩
              have hkl : kk < 4 + m := by rw [← hkk]; exact Nat.mod_lt _ (by omega)
              rw [hkk] at hcutE
              have HC := hide hcutE
              have HK := hide hkk
              clear hX hkk hcutE y0 y1 y2 y3 y4
              replace hbx := hbx.below hEa hbx.lt
              obtain ⟨⟨u0, u1, u2, u3⟩, _, hlt⟩ := hbx.four
              go_wp2_with fail
              refine (S5.out _ _ _ hB6).mono ?_
              rintro e w7 ⟨rfl, hE7⟩
              have hbz := Blk.new w7 32 #[.bool p, .int .i64 c, .int .i64 t, .int .i64 s]
              replace hE7 := hE7.alloc (.cells #[.bool p, .int .i64 c, .int .i64 t, .int .i64 s] 32)
              replace hEa := hEa.trans hE7
              replace hbx := hbx.below hE7 hlt
              replace hB6 := hB6.ext hE7
              clear hE7 hlt u0 u1 u2 u3 S5
              obtain ⟨⟨u0, u1, u2, u3⟩, _, hlt⟩ := hbx.four
              have hs1 : IntKind.i64.wrap (less : Int) = (less : Int) := IntWalk.i64_in _ (by omega)
              have hmod : (less : Int) % s = (kk : Int) := by rw [HM.out, ← HK.out]; rfl
              have hc6 := hB6.le
              have hk6 : kk ≤ c6 := by omega
              have hk7 : c6 ≠ 0 := by omega
              have hB7 := hB6.take (Nat.le_of_lt hkl)
              have S6 := hide (fun W A k hb => cread_any A kk k (X.take kk) W hb)
              obtain ⟨E3, hE3⟩ : ∃ E3 : Int, (if kk < 4 then 2 else 4) = E3 := ⟨_, rfl⟩
              have h30 : E3 ≠ 0 := by rw [← hE3]; split <;> omega
              have hq := HC.out
              rw [hE3] at hq
              have hq0 : cE (X.take kk) ≠ 0 := by rw [hq]; exact h30
              obtain ⟨z1, z2, z3, z4⟩ := cE_off hq0
              rw [hq, z1, z2, z3, z4] at S6
              clear hq hq0 z1 z2 z3 z4
              have HE3 := hide hE3
              clear hE3
              go_wp2_with fail
              refine (S6.out _ _ _ hB7).mono ?_
              rintro e w8 ⟨rfl, hE8⟩
              have hbv := Blk.new w8 32 #[.bool false, .int .i64 0, .int .i64 0, .int .i64 0]
              have hl7 := hbz.lt
              replace hE8 := hE8.alloc (.cells #[.bool false, .int .i64 0, .int .i64 0, .int .i64 0] 32)
              replace hEa := hEa.trans hE8
              replace hbx := hbx.below hE8 hlt
              replace hbz := hbz.below hE8 hl7
              clear hE8 hlt u0 u1 u2 u3 S6 hB7 hB6 hl7
              obtain ⟨⟨u0, u1, u2, u3⟩, _, hlt⟩ := hbx.four
              obtain ⟨⟨v0, v1, v2, v3⟩, _, hlt2⟩ := hbz.four
              obtain ⟨⟨z0, z1, z2, z3⟩, _, hlt3⟩ := hbv.four
              have s2 := fun w => neq_common p p c t s c t s w
              have s3 := fun w => neq_common false false 0 0 0 0 0 0 w
              rw [show (!(p == p && c == c && t == t && s == s)) = false by simp] at s2
              rw [show (!(false == false && (0 : Int) == 0 && (0 : Int) == 0 && (0 : Int) == 0)) = false by decide] at s3
              by_cases k4 : kk < 4
              · obtain rfl : (2 : Int) = E3 := by rw [← HE3.out, if_pos k4]
                go_wp2_with fail
                go_meet
                case rel => exact hEa
              · obtain rfl : (4 : Int) = E3 := by rw [← HE3.out, if_neg k4]
                have k5 : 4 ≤ kk := by omega
                go_wp2_with fail
                go_meet
                case rel => exact hEa
            · obtain ⟨⟨u0, u1, u2, u3⟩, _, hlt⟩ := hbx.four
              obtain ⟨rfl, rfl, rfl⟩ := HY1.out hr
              rw [hr] at S4
              clear HY1 HN1
              obtain rfl : z = false := by rw [← HZ.out, hr, decide_eq_false h3]; rfl
              go_wp2_with fail
              refine (S4.out _).mono ?_
              rintro e w5 ⟨rfl, hE5⟩
              go_wp2_with fail
              go_meet
              case rel => exact hE5
        case rest =>
          rename_i wp _
          replace hE := hE.trans hcut
          replace hb := hb.ext hcut
          clear hcut hB1 hbx HY1 HN1 HZ S4
          have hlen := hb.len
          by_cases h0 : cE b = 0
          · obtain ⟨y0, y1, y2, y3⟩ := cBack h0
            have S5 := hide (fun W => cwrite_yes (cP b) (cC b) (cT b) (cS b) W y0)
            have S6 := hide (fun W => cright_any (cP b) (cC b) (cT b) (cS b) W)
            rw [y2] at S5
            rw [y0] at S6
            rw [h0] at S3
            have hle : cS b ≤ n := by omega
            have hn4 : 4 ≤ n := by omega
            obtain ⟨e2, he2⟩ : ∃ e1, cP b = e1 := ⟨_, rfl⟩
            obtain ⟨e3, he3⟩ : ∃ e1, cC b = e1 := ⟨_, rfl⟩
            obtain ⟨e4, he4⟩ : ∃ e1, cT b = e1 := ⟨_, rfl⟩
            obtain ⟨e5, he5⟩ : ∃ e1, cS b = e1 := ⟨_, rfl⟩
            rw [he2, he3, he4, he5] at S3 S5 S6
            rw [he5] at hle
            clear h0 y0 y1 y2 y3 he2 he3 he4 he5 hlen
            go_wp2_with fail
            refine (S3.out _ hb).mono ?_
            rintro e w5 ⟨rfl, hE5⟩
            have hbz := Blk.new w5 32 #[.bool e2, .int .i64 e3, .int .i64 e4, .int .i64 e5]
            replace hE5 := hE5.alloc (.cells #[.bool e2, .int .i64 e3, .int .i64 e4, .int .i64 e5] 32)
            replace hE := hE.trans hE5
            replace hb := hb.ext hE5
            clear hE5 S3
            have hl := hbz.lt
            go_wp2_with fail
            refine (S5.out _).mono ?_
            rintro e w6 ⟨A6, k6, rfl, hB6, hE6⟩
            replace hE := hE.trans hE6
            replace hb := hb.ext hE6
            replace hbz := hbz.below hE6 hl
            clear hE6 S5 hl
            have hB7 := hb.take hn4
            have hk := hb.le
            have hk4 : 4 ≤ k := by omega
            have hk0 : k ≠ 0 := by omega
            go_wp2_with fail
            have F0 := hide (fun W (hW : Ext w6 W) => (hbz.below hW hbz.lt).four)
            have f0 := fun W hW => (F0.out W hW).1.1
            have f1 := fun W hW => (F0.out W hW).1.2.1
            have f2 := fun W hW => (F0.out W hW).1.2.2.1
            have f3 := fun W hW => (F0.out W hW).1.2.2.2
            have f4 := fun W hW => (F0.out W hW).2.2
            have hk5 : (4 : Int) ≤ (k : Int) := by omega
            refine regE_start (by kernel_rfl) ?_
            refine regE_take (i := 0) (v := ?_) rfl (by kernel_rfl) (by kernel_rfl) (by kernel_rfl) (fun _ _ _ h => h) (by rfl) ?_ ?_
            rotate_left
            · intro W hW; go_simp; try with_reducible rfl
            simp only [Act.put, List.setIfInBounds_toArray, List.set_cons_zero, List.set_cons_succ]
            refine regE_take (i := 1) (v := ?_) rfl (by kernel_rfl) (by kernel_rfl) (by kernel_rfl) (fun _ _ _ h => h) (by rfl) ?_ ?_
            rotate_left
            · intro W hW; go_simp; try with_reducible rfl
            simp only [Act.put, List.setIfInBounds_toArray, List.set_cons_zero, List.set_cons_succ]
            refine regE_take (i := 2) (v := ?_) rfl (by kernel_rfl) (by kernel_rfl) (by kernel_rfl) (fun _ _ _ h => h) (by rfl) ?_ ?_
            rotate_left
            · intro W hW; go_simp; try with_reducible rfl
            simp only [Act.put, List.setIfInBounds_toArray, List.set_cons_zero, List.set_cons_succ]
            refine regE_take (i := 3) (v := ?_) rfl (by kernel_rfl) (by kernel_rfl) (by kernel_rfl) (fun _ _ _ h => h) (by rfl) ?_ ?_
            rotate_left
            · intro W hW; go_simp; try with_reducible rfl
            simp only [Act.put, List.setIfInBounds_toArray, List.set_cons_zero, List.set_cons_succ]
            refine regE_do (i := 4) rfl (by kernel_rfl) (fun K hK => ?_)
            rw [if_pos (by rfl)]
            go_simp
            refine (S6.out _).mono ?_
            rintro e w7 ⟨rfl, hE7⟩
            refine hK.out _ _ ((Ext.refl _).drew.trans hE7) ?_
            clear hK K
            try simp only [Act.put, List.setIfInBounds_toArray, List.set_cons_zero, List.set_cons_succ]
            refine regE_take (i := 5) (v := ?_) rfl (by kernel_rfl) (by kernel_rfl) (by kernel_rfl) (fun _ _ _ h => h) (by rfl) ?_ ?_
            rotate_left
            · intro W hW; go_simp; try with_reducible rfl
            simp only [Act.put, List.setIfInBounds_toArray, List.set_cons_zero, List.set_cons_succ]
            refine regE_take (i := 6) (v := ?_) rfl (by kernel_rfl) (by kernel_rfl) (by kernel_rfl) (fun _ _ _ h => h) (by rfl) ?_ ?_
            rotate_left
            · intro W hW; go_simp; try with_reducible rfl
            simp only [Act.put, List.setIfInBounds_toArray, List.set_cons_zero, List.set_cons_succ]
            refine regE_take (i := 7) (v := ?_) rfl (by kernel_rfl) (by kernel_rfl) (by kernel_rfl) (fun _ _ _ h => h) (by rfl) ?_ ?_
            rotate_left
            · intro W hW; go_simp; try with_reducible rfl
            simp only [Act.put, List.setIfInBounds_toArray, List.set_cons_zero, List.set_cons_succ]
            refine regE_take (i := 8) (v := ?_) rfl (by kernel_rfl) (by kernel_rfl) (by kernel_rfl) (fun _ _ _ h => h) (by rfl) ?_ ?_
            rotate_left
            · intro W hW; go_simp; try with_reducible rfl
            simp only [Act.put, List.setIfInBounds_toArray, List.set_cons_zero, List.set_cons_succ]
            refine regE_take (i := 9) (v := ?_) rfl (by kernel_rfl) (by kernel_rfl) (by kernel_rfl) (fun _ _ _ h => h) (by rfl) ?_ ?_
            rotate_left
            · intro W hW; go_simp; try with_reducible rfl
            simp only [Act.put, List.setIfInBounds_toArray, List.set_cons_zero, List.set_cons_succ]
            refine regE_take (i := 10) (v := ?_) rfl (by kernel_rfl) (by kernel_rfl) (by kernel_rfl) (fun _ _ _ h => h) (by rfl) ?_ ?_
            rotate_left
            · intro W hW; go_simp; try with_reducible rfl
            simp only [Act.put, List.setIfInBounds_toArray, List.set_cons_zero, List.set_cons_succ]
            refine regE_take (i := 11) (v := ?_) rfl (by kernel_rfl) (by kernel_rfl) (by kernel_rfl) (fun _ _ _ h => h) (by rfl) ?_ ?_
            rotate_left
            · intro W hW; go_simp; try with_reducible rfl
            simp only [Act.put, List.setIfInBounds_toArray, List.set_cons_zero, List.set_cons_succ]
            refine regE_take (i := 12) (v := ?_) rfl (by kernel_rfl) (by kernel_rfl) (by kernel_rfl) (fun _ _ _ h => h) (by rfl) ?_ ?_
            rotate_left
            · intro W hW; go_simp; try with_reducible rfl
            simp only [Act.put, List.setIfInBounds_toArray, List.set_cons_zero, List.set_cons_succ]
            refine regE_take (i := 13) (v := ?_) rfl (by kernel_rfl) (by kernel_rfl) (by kernel_rfl) (fun _ _ _ h => h) (by rfl) ?_ ?_
            rotate_left
            · intro W hW; go_simp; try with_reducible rfl
            simp only [Act.put, List.setIfInBounds_toArray, List.set_cons_zero, List.set_cons_succ]
            refine regE_take (i := 14) (v := ?_) rfl (by kernel_rfl) (by kernel_rfl) (by kernel_rfl) (fun _ _ _ h => h) (by rfl) ?_ ?_
            rotate_left
            · intro W hW; go_simp; try with_reducible rfl
            simp only [Act.put, List.setIfInBounds_toArray, List.set_cons_zero, List.set_cons_succ]
            refine regE_take (i := 15) (v := ?_) rfl (by kernel_rfl) (by kernel_rfl) (by kernel_rfl) (fun _ _ _ h => h) (by rfl) ?_ ?_
            rotate_left
            · intro W hW; have s1 := run_str (hB6.ext hW); go_simp; try with_reducible rfl
            simp only [Act.put, List.setIfInBounds_toArray, List.set_cons_zero, List.set_cons_succ]
            refine regE_take (i := 16) (v := ?_) rfl (by kernel_rfl) (by kernel_rfl) (by kernel_rfl) (fun _ _ _ h => h) (by rfl) ?_ ?_
            rotate_left
            · intro W hW; go_simp; try with_reducible rfl
            simp only [Act.put, List.setIfInBounds_toArray, List.set_cons_zero, List.set_cons_succ]
            refine regE_take (i := 17) (v := ?_) rfl (by kernel_rfl) (by kernel_rfl) (by kernel_rfl) (fun _ _ _ h => h) (by rfl) ?_ ?_
            rotate_left
            · intro W hW; go_simp; try with_reducible rfl
            simp only [Act.put, List.setIfInBounds_toArray, List.set_cons_zero, List.set_cons_succ]
            refine regE_take (i := 18) (v := ?_) rfl (by kernel_rfl) (by kernel_rfl) (by kernel_rfl) (fun _ _ _ h => h) (by rfl) ?_ ?_
            rotate_left
            · intro W hW; have s1 := run_str (hB7.ext hW); go_simp; try with_reducible rfl
            simp only [Act.put, List.setIfInBounds_toArray, List.set_cons_zero, List.set_cons_succ]
            refine regE_take (i := 19) (v := ?_) rfl (by kernel_rfl) (by kernel_rfl) (by kernel_rfl) (fun _ _ _ h => h) (by rfl) ?_ ?_
            rotate_left
            · intro W hW; go_simp; try with_reducible rfl
            simp only [Act.put, List.setIfInBounds_toArray, List.set_cons_zero, List.set_cons_succ]
            refine regE_take (i := 20) (v := ?_) rfl (by kernel_rfl) (by kernel_rfl) (by kernel_rfl) (fun _ _ _ h => h) (by rfl) ?_ ?_
            rotate_left
            · intro W hW; go_simp; try with_reducible rfl
            simp only [Act.put, List.setIfInBounds_toArray, List.set_cons_zero, List.set_cons_succ]
            refine regE_take (i := 21) (v := ?_) rfl (by kernel_rfl) (by kernel_rfl) (by kernel_rfl) (fun _ _ _ h => h) (by rfl) ?_ ?_
            rotate_left
            · intro W hW; go_simp; try with_reducible rfl
            simp only [Act.put, List.setIfInBounds_toArray, List.set_cons_zero, List.set_cons_succ]
            refine regE_done (by kernel_rfl) ?_
            go_wp2_with fail
            go_ret
            exact ⟨rfl, hE.trans ((Ext.refl _).drew.trans hE7)⟩
          · obtain ⟨z1, z2, z3, z4⟩ := cE_off h0
            rw [z1, z2, z3, z4] at S3
            have hne : (cE b != 0) = true := bne_iff_ne.2 h0
            obtain ⟨E3, he⟩ : ∃ E3, cE b = E3 := ⟨_, rfl⟩
            rw [he] at S3 hne
            clear z1 z2 z3 z4 h0 he
            go_wp2_with fail
            refine (S3.out _ hb).mono ?_
            rintro e w5 ⟨rfl, hE5⟩
            have hbz := Blk.new w5 32 #[.bool false, .int .i64 0, .int .i64 0, .int .i64 0]
            replace hE5 := hE5.alloc (.cells #[.bool false, .int .i64 0, .int .i64 0, .int .i64 0] 32)
            replace hE := hE.trans hE5
            clear hE5 S3
            have s3 := fun w => eql_common false false 0 0 0 0 0 0 w
            rw [show (false == false && (0 : Int) == 0 && (0 : Int) == 0 && (0 : Int) == 0) = true by decide] at s3
            obtain ⟨⟨z0, z1, z2, z3⟩, _, hlt3⟩ := hbz.four
            go_wp2_with fail
            go_ret
            exact ⟨rfl, hE⟩
end Go.Proofs.Ytiamcdbnhmlhaaa

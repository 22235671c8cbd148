/- Vp8Right: the walk. -/
import Derived.Test.YtcdacnhggpfnaaaVp8X5
import Derived.Test.YtcdacnhggpfnaaaVp8Aw
import Derived.Test.YtcdacnhggpfnaaaLawVp8B
import Derived.Deep.DeepCutAuto
namespace Go.Proofs.Ytcdacnhggpfnaaa
open Go.RowKit
set_option maxRecDepth 100000 in
set_option maxHeartbeats 8000000 in
theorem law_vp8right (d : V8) (A : Option Addr) (n c : Nat) (b : List UInt8) (pic lev key : Int) (w : World) (hb : Bytes w A n c b) :
    Calls Try.prog 5 #[.agg #[.bool d.alone, .bool d.start, .int .i64 d.part, .bool d.hasPic, .bool d.wide, .int .i64 d.pic, .bool d.hasLevel, .int .i64 d.level, .bool d.hasTid, .bool d.hasKey, .int .i64 d.tid, .bool d.sync, .int .i64 d.key], .slice A n c, .int .i64 pic, .int .i64 lev, .int .i64 key] w fun e w' => e = .returned (.bool true) ∧ Ext w w' := by
  have hbx := Blk.new w 45 #[.bool d.alone, .bool d.start, .int .i64 d.part, .bool d.hasPic, .bool d.wide, .int .i64 d.pic, .bool d.hasLevel, .int .i64 d.level, .bool d.hasTid, .bool d.hasKey, .int .i64 d.tid, .bool d.sync, .int .i64 d.key]
  have hE := (Ext.refl w).alloc (.cells #[.bool d.alone, .bool d.start, .int .i64 d.part, .bool d.hasPic, .bool d.wide, .int .i64 d.pic, .bool d.hasLevel, .int .i64 d.level, .bool d.hasTid, .bool d.hasKey, .int .i64 d.tid, .bool d.sync, .int .i64 d.key] 45)
  replace hb := hb.ext hE
  by_cases hbig : 3000 < n
  · have d1 : (3000 : Int) < (n : Int) := by omega
    go_enter Try.func5, Try.ntmps5
    go_wp2_with fail
    refine (awake23 _).mono ?_
    rintro e w1 ⟨rfl, hE2⟩
    go_wp2_with fail
    go_ret
    exact ⟨rfl, hE.trans hE2⟩
  have d1 : ¬ (3000 : Int) < (n : Int) := by omega
  have hn : n ≤ 1000000 := by omega
  clear hbig
  obtain ⟨r, hr⟩ : ∃ r, v8Right d = r := ⟨_, rfl⟩
  obtain ⟨x, hx⟩ : ∃ x, v8WL d = x := ⟨_, rfl⟩
  obtain ⟨Nx, hNx⟩ : ∃ N, x.length = N := ⟨_, rfl⟩
  obtain ⟨Ex, hEx⟩ : ∃ E, v8WE d = E := ⟨_, rfl⟩
  obtain ⟨E, hEe⟩ : ∃ E, vrE b = E := ⟨_, rfl⟩
  obtain ⟨z, hz⟩ : ∃ d, vrD b = d := ⟨_, rfl⟩
  obtain ⟨M, hM⟩ : ∃ N, vrN b = N := ⟨_, rfl⟩
  obtain ⟨fp, hfp⟩ : ∃ N, fdP b = N := ⟨_, rfl⟩
  obtain ⟨fl, hfl⟩ : ∃ N, fdL b = N := ⟨_, rfl⟩
  obtain ⟨fk, hfk⟩ : ∃ N, fdK b = N := ⟨_, rfl⟩
  obtain ⟨F, hF⟩ : ∃ F, vsE b pic lev key = F := ⟨_, rfl⟩
  obtain ⟨s, hs⟩ : ∃ x, vsL b pic lev key = x := ⟨_, rfl⟩
  obtain ⟨Ns, hNs⟩ : ∃ M, s.length = M := ⟨_, rfl⟩
  obtain ⟨cn, hcn⟩ : ∃ M, vrC b = M := ⟨_, rfl⟩
  have R1 := hide (fun W => rfright_any d W r hr)
  have S1 := hide (fun W => v8write_B d W x hx Nx hNx Ex hEx)
  have S2 := hide (fun W hb => v8read_any A n c b W hb hn z hz M hM E hEe)
  have R2 := hide (fun W hb => fnd_any A n c b W hb hn)
  rw [hEe, hz, hM, hfp, hfl, hfk] at R2
  have S3 := hide (fun W hb => v8set_any A n c b pic lev key W hb hn s hs F hF Ns hNs)
  have R3 := hide (fun W hb => rfset_any A n c b pic lev key W hb hn s hs F hF Ns hNs)
  have S4 := hide (fun W => v8right_any d W r hr)
  have S5 := hide (fun W hb => v8canon_any A n c b W hb hn cn hcn)
  have R5 := hide (fun W hb => rfcanon_any A n c b W hb hn cn hcn)
  have HX := hide (And.intro hr (And.intro hx (And.intro hNx hEx)))
  have hrr : (r == r) = true := by cases r <;> rfl
  have hcc : (cn == cn) = true := by cases cn <;> rfl
  clear hr hx hNx hEx hEe hz hM hfp hfl hfk hF hs hNs hcn
  go_enter Try.func5, Try.ntmps5
  go_wp2_with fail
  refine (awake23 _).mono ?_
  rintro e w1 ⟨rfl, hE2⟩
  replace hE := hE.trans hE2
  replace hb := hb.ext hE2
  replace hbx := hbx.below hE2 hbx.lt
  clear hE2
  obtain ⟨⟨u0, u1, u2, u3, u4, u5, u6, u7, u8, u9, u10, u11, u12⟩, uf, _⟩ := hbx.thirteen
  go_wp2_with fail
  clear u0 u1 u2 u3 u4 u5 u6 u7 u8 u9 u10 u11 u12 uf
  refine (R1.out _).mono ?_
  rintro e w2 ⟨rfl, hE2⟩
  replace hE := hE.trans hE2
  replace hb := hb.ext hE2
  replace hbx := hbx.below hE2 hbx.lt
  clear hE2 R1
  obtain ⟨⟨u0, u1, u2, u3, u4, u5, u6, u7, u8, u9, u10, u11, u12⟩, uf, _⟩ := hbx.thirteen
  go_wp2_with fail
  clear u0 u1 u2 u3 u4 u5 u6 u7 u8 u9 u10 u11 u12 uf
  refine (S1.out _).mono ?_
  rintro e w3 ⟨Ax, cx, rfl, hX, hE2⟩
  replace hE := hE.trans hE2
  replace hb := hb.ext hE2
  replace hbx := hbx.below hE2 hbx.lt
  clear hE2 S1
  go_upto_if 34 with (fail)
  go_cut [] (fun wx => Ext w3 wx)
  case first => as_aux_lemma =>
    obtain ⟨hr, hx, hNx, hEx⟩ := HX.out
    clear hE S2 R2 S3 R3 S4 S5 R5 HX hb
    unfold v8WL at hx
    unfold v8WE at hEx
    cases r
    · rw [hr] at hx hEx
      obtain rfl : (1 : Int) = Ex := hEx
      obtain rfl : [] = x := hx
      obtain rfl : 0 = Nx := hNx
      clear hr
      go_wp2_with fail
      go_meet
      exact Ext.refl _
    · rw [hr] at hx hEx
      obtain rfl : (0 : Int) = Ex := hEx
      rw [if_pos rfl] at hx
      have S6 := hide (fun W => rfwrite_B d W hr x hx Nx hNx)
      clear hr hx hNx
      go_upto_region 8 with fail
      go_cut [44] (fun v wx => v = .bool false ∧ Ext w3 wx)
      case first => as_aux_lemma =>
        refine regE_start (by kernel_rfl) ?_
        have hR := (Ext.refl w3).drew
        generalize hgw : (w3).drew = wr0 at *
        clear hgw
        refine regE_take (i := 0) (v := ?_) rfl (by kernel_rfl) (by kernel_rfl) (by kernel_rfl) (fun _ _ _ h => h) (by rfl) ?_ ?_
        rotate_left
        · intro W hW; go_simp; try with_reducible rfl
        simp only [Act.put, List.setIfInBounds_toArray, List.set_cons_zero, List.set_cons_succ]
        refine regE_take (i := 1) (v := ?_) rfl (by kernel_rfl) (by kernel_rfl) (by kernel_rfl) (fun _ _ _ h => h) (by rfl) ?_ ?_
        rotate_left
        · intro W hW; go_simp; try with_reducible rfl
        simp only [Act.put, List.setIfInBounds_toArray, List.set_cons_zero, List.set_cons_succ]
        refine regE_take (i := 2) (v := ?_) rfl (by kernel_rfl) (by kernel_rfl) (by kernel_rfl) (fun _ _ _ h => h) (by rfl) ?_ ?_
        rotate_left
        · intro W hW; go_simp; try with_reducible rfl
        simp only [Act.put, List.setIfInBounds_toArray, List.set_cons_zero, List.set_cons_succ]
        refine regE_take (i := 3) (v := ?_) rfl (by kernel_rfl) (by kernel_rfl) (by kernel_rfl) (fun _ _ _ h => h) (by rfl) ?_ ?_
        rotate_left
        · intro W hW; go_simp; try with_reducible rfl
        simp only [Act.put, List.setIfInBounds_toArray, List.set_cons_zero, List.set_cons_succ]
        refine regE_take (i := 4) (v := ?_) rfl (by kernel_rfl) (by kernel_rfl) (by kernel_rfl) (fun _ _ _ h => h) (by rfl) ?_ ?_
        rotate_left
        · intro W hW; have s1 := run_str (hX.ext hW); go_simp; try with_reducible rfl
        simp only [Act.put, List.setIfInBounds_toArray, List.set_cons_zero, List.set_cons_succ]
        refine regE_take (i := 5) (v := ?_) rfl (by kernel_rfl) (by kernel_rfl) (by kernel_rfl) (fun _ _ _ h => h) (by rfl) ?_ ?_
        rotate_left
        · intro W hW; obtain ⟨⟨u0, u1, u2, u3, u4, u5, u6, u7, u8, u9, u10, u11, u12⟩, uf, _⟩ := (hbx.below hW hbx.lt).thirteen; go_simp; try with_reducible rfl
        simp only [Act.put, List.setIfInBounds_toArray, List.set_cons_zero, List.set_cons_succ]
        refine regE_do (i := 6) rfl (by kernel_rfl) (fun K hK => ?_)
        rw [if_pos (by rfl)]
        go_simp
        refine (S6.out _).mono ?_
        rintro e wr1 ⟨A6, c6, rfl, hY, hXX⟩
        refine hK.out _ _ (hR.trans hXX) ?_
        clear hK K
        refine regE_raise ?_
        replace hR := hR.trans hXX
        try simp only [Act.put, List.setIfInBounds_toArray, List.set_cons_zero, List.set_cons_succ]
        refine regE_take (i := 7) (v := ?_) rfl (by kernel_rfl) (by kernel_rfl) (by kernel_rfl) (fun _ _ _ h => h) (by rfl) ?_ ?_
        rotate_left
        · intro W hW; have s1 := run_str (hY.ext hW); go_simp; try with_reducible rfl
        simp only [Act.put, List.setIfInBounds_toArray, List.set_cons_zero, List.set_cons_succ]
        refine regE_take (i := 8) (v := ?_) rfl (by kernel_rfl) (by kernel_rfl) (by kernel_rfl) (fun _ _ _ h => h) (by rfl) ?_ ?_
        rotate_left
        · intro W hW; go_simp; try with_reducible rfl
        simp only [Act.put, List.setIfInBounds_toArray, List.set_cons_zero, List.set_cons_succ]
        refine regE_take (i := 9) (v := ?_) rfl (by kernel_rfl) (by kernel_rfl) (by kernel_rfl) (fun _ _ _ h => h) (by rfl) ?_ ?_
        rotate_left
        · intro W hW; go_simp; try with_reducible rfl
        simp only [Act.put, List.setIfInBounds_toArray, List.set_cons_zero, List.set_cons_succ]
        refine regE_done (by kernel_rfl) ?_
        go_wp2_with fail
        go_meet
        case rel => exact ⟨rfl, hR⟩
      case rest =>
        obtain ⟨rfl, hE4⟩ := hcut
        go_wp2_with fail
        go_meet
        exact hE4
  case rest =>
    replace hE := hE.trans hcut
    replace hb := hb.ext hcut
    replace hbx := hbx.below hcut hbx.lt
    clear hcut HX hX
    go_wp2_with fail
    refine (S2.out _ hb).mono ?_
    rintro e w4 ⟨rfl, hE2⟩
    replace hE := hE.trans hE2
    replace hb := hb.ext hE2
    replace hbx := hbx.below hE2 hbx.lt
    clear hE2 S2
    have hby := Blk.new w4 45 #[.bool z.alone, .bool z.start, .int .i64 z.part, .bool z.hasPic, .bool z.wide, .int .i64 z.pic, .bool z.hasLevel, .int .i64 z.level, .bool z.hasTid, .bool z.hasKey, .int .i64 z.tid, .bool z.sync, .int .i64 z.key]
    have hE2 := (Ext.refl w4).alloc (.cells #[.bool z.alone, .bool z.start, .int .i64 z.part, .bool z.hasPic, .bool z.wide, .int .i64 z.pic, .bool z.hasLevel, .int .i64 z.level, .bool z.hasTid, .bool z.hasKey, .int .i64 z.tid, .bool z.sync, .int .i64 z.key] 45)
    replace hE := hE.trans hE2
    replace hb := hb.ext hE2
    replace hbx := hbx.below hE2 hbx.lt
    clear hE2
    obtain ⟨gy, hgy⟩ : ∃ g, w4.heap.size = g := ⟨_, rfl⟩
    go_upto_region 13 with fail
    rw [hgy] at hby; try rw [hgy]
    generalize hgw : w4.alloc (.cells #[.bool z.alone, .bool z.start, .int .i64 z.part, .bool z.hasPic, .bool z.wide, .int .i64 z.pic, .bool z.hasLevel, .int .i64 z.level, .bool z.hasTid, .bool z.hasKey, .int .i64 z.tid, .bool z.sync, .int .i64 z.key] 45) = w5 at *
    clear hgw hgy
    go_wp2_with fail
    refine (R2.out _ hb).mono ?_
    rintro e w6 ⟨rfl, hE2⟩
    replace hE := hE.trans hE2
    replace hb := hb.ext hE2
    replace hbx := hbx.below hE2 hbx.lt
    replace hby := hby.below hE2 hby.lt
    clear hE2 R2
    have hbf0 := Blk.new w6 53 #[.bool false, .bool false, .int .i64 0, .bool false, .bool false, .int .i64 0, .bool false, .int .i64 0, .bool false, .bool false, .int .i64 0, .bool false, .int .i64 0, .int .i64 0, .int .i64 0, .int .i64 0, .int .i64 0, .int .i64 0]
    have hbf := hbf0.row #[.bool z.alone, .bool z.start, .int .i64 z.part, .bool z.hasPic, .bool z.wide, .int .i64 z.pic, .bool z.hasLevel, .int .i64 z.level, .bool z.hasTid, .bool z.hasKey, .int .i64 z.tid, .bool z.sync, .int .i64 z.key, .int .i64 (M : Int), .int .i64 fp, .int .i64 fl, .int .i64 fk, .int .i64 E]
    have hE2 := ((Ext.refl w6).alloc (.cells #[.bool false, .bool false, .int .i64 0, .bool false, .bool false, .int .i64 0, .bool false, .int .i64 0, .bool false, .bool false, .int .i64 0, .bool false, .int .i64 0, .int .i64 0, .int .i64 0, .int .i64 0, .int .i64 0, .int .i64 0] 53)).row (Nat.le_refl _) #[.bool z.alone, .bool z.start, .int .i64 z.part, .bool z.hasPic, .bool z.wide, .int .i64 z.pic, .bool z.hasLevel, .int .i64 z.level, .bool z.hasTid, .bool z.hasKey, .int .i64 z.tid, .bool z.sync, .int .i64 z.key, .int .i64 (M : Int), .int .i64 fp, .int .i64 fl, .int .i64 fk, .int .i64 E]
    replace hE := hE.trans hE2
    replace hb := hb.ext hE2
    replace hbx := hbx.below hE2 hbx.lt
    replace hby := hby.below hE2 hby.lt
    clear hE2
    go_upto_region 14 with (refine wpList_store_row rfl 53 _ _ rfl w6.heap.size #[.bool z.alone, .bool z.start, .int .i64 z.part, .bool z.hasPic, .bool z.wide, .int .i64 z.pic, .bool z.hasLevel, .int .i64 z.level, .bool z.hasTid, .bool z.hasKey, .int .i64 z.tid, .bool z.sync, .int .i64 z.key, .int .i64 (M : Int), .int .i64 fp, .int .i64 fl, .int .i64 fk, .int .i64 E] rfl rfl 53 _ hbf0 (by kernel_rfl) rfl (by simp [Value.oneCell']) ?_)
    clear hbf0
    obtain ⟨gf, hgf⟩ : ∃ g, w6.heap.size = g := ⟨_, rfl⟩
    rw [hgf] at hbf hE hb hbx hby; try rw [hgf]
    generalize hgw : (w6.alloc (.cells #[.bool false, .bool false, .int .i64 0, .bool false, .bool false, .int .i64 0, .bool false, .int .i64 0, .bool false, .bool false, .int .i64 0, .bool false, .int .i64 0, .int .i64 0, .int .i64 0, .int .i64 0, .int .i64 0, .int .i64 0] 53)).setRow gf #[.bool z.alone, .bool z.start, .int .i64 z.part, .bool z.hasPic, .bool z.wide, .int .i64 z.pic, .bool z.hasLevel, .int .i64 z.level, .bool z.hasTid, .bool z.hasKey, .int .i64 z.tid, .bool z.sync, .int .i64 z.key, .int .i64 (M : Int), .int .i64 fp, .int .i64 fl, .int .i64 fk, .int .i64 E] = w7 at *
    clear hgw hgf
    have q1 := neq_ok z (v8eq_refl z)
    have e1 : (E != E) = false := by simp
    have e2 : ((M : Int) != (M : Int)) = false := by simp
    obtain ⟨⟨u0, u1, u2, u3, u4, u5, u6, u7, u8, u9, u10, u11, u12⟩, uf, _⟩ := hby.thirteen
    obtain ⟨⟨x0, x1, x2, x3, x4, x5, x6, x7, x8, x9, x10, x11, x12, x13, x14, x15, x16, x17⟩, xf, _⟩ := hbf.c18
    go_upto_if 75 with (fail)
    clear x0 x1 x2 x3 x4 x5 x6 x7 x8 x9 x10 x11 x12 x13 x14 x15 x16 x17 xf hbf hby q1
    clear u0 u1 u2 u3 u4 u5 u6 u7 u8 u9 u10 u11 u12 uf
    go_wp2_with fail
    refine (S3.out _ hb).mono ?_
    rintro e w8 ⟨As, cs, rfl, hS, hE2⟩
    replace hE := hE.trans hE2
    replace hb := hb.ext hE2
    replace hbx := hbx.below hE2 hbx.lt
    clear hE2 S3
    go_wp2_with fail
    refine (R3.out _ hb).mono ?_
    rintro e w9 ⟨At, ct, rfl, hT, hE2⟩
    replace hE := hE.trans hE2
    replace hb := hb.ext hE2
    replace hS := hS.ext hE2
    replace hbx := hbx.below hE2 hbx.lt
    clear hE2 R3
    obtain ⟨⟨u0, u1, u2, u3, u4, u5, u6, u7, u8, u9, u10, u11, u12⟩, uf, _⟩ := hbx.thirteen
    go_wp2_with fail
    clear u0 u1 u2 u3 u4 u5 u6 u7 u8 u9 u10 u11 u12 uf
    refine (S4.out _).mono ?_
    rintro e w10 ⟨rfl, hE2⟩
    replace hE := hE.trans hE2
    replace hb := hb.ext hE2
    replace hS := hS.ext hE2
    replace hT := hT.ext hE2
    clear hE2 S4 hbx
    go_wp2_with fail
    refine (S5.out _ hb).mono ?_
    rintro e w11 ⟨rfl, hE2⟩
    replace hE := hE.trans hE2
    replace hb := hb.ext hE2
    replace hS := hS.ext hE2
    replace hT := hT.ext hE2
    clear hE2 S5
    go_wp2_with fail
    refine (R5.out _ hb).mono ?_
    rintro e w12 ⟨rfl, hE2⟩
    replace hE := hE.trans hE2
    replace hb := hb.ext hE2
    replace hS := hS.ext hE2
    replace hT := hT.ext hE2
    clear hE2 R5
    have s1 := run_str hS
    have s2 := run_str hT
    go_wp2_with fail
    go_ret
    exact ⟨rfl, hE⟩
end Go.Proofs.Ytcdacnhggpfnaaa

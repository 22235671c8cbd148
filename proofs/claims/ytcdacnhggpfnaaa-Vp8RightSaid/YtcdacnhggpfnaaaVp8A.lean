/- vp8: whether a descriptor is right: the walks. -/
import Derived.Test.YtcdacnhggpfnaaaPlainVp8
import Derived.Test.YtcdacnhggpfnaaaOctB
import Derived.Test.YtcdacnhggpfnaaaReg
import Derived.Test.YtcdacnhggpfnaaaAppB
import Derived.BigQuiet
import Derived.Deep.QuietTactic
import Derived.Deep.DeepCutAuto
namespace Go.Proofs.Ytcdacnhggpfnaaa
open Go.RowKit
theorem Blk.thirteen {w : World} {g : Nat} {t : TypeId} {a b c d e f h i j k l m n : Value} (H : Blk w g t #[a, b, c, d, e, f, h, i, j, k, l, m, n]) :
    (w.cell? ⟨g, 0, none⟩ = some a ∧ w.cell? ⟨g, 1, none⟩ = some b ∧ w.cell? ⟨g, 2, none⟩ = some c ∧ w.cell? ⟨g, 3, none⟩ = some d ∧ w.cell? ⟨g, 4, none⟩ = some e ∧ w.cell? ⟨g, 5, none⟩ = some f ∧ w.cell? ⟨g, 6, none⟩ = some h ∧ w.cell? ⟨g, 7, none⟩ = some i ∧ w.cell? ⟨g, 8, none⟩ = some j ∧ w.cell? ⟨g, 9, none⟩ = some k ∧ w.cell? ⟨g, 10, none⟩ = some l ∧ w.cell? ⟨g, 11, none⟩ = some m ∧ w.cell? ⟨g, 12, none⟩ = some n) ∧ (∀ i, w.frozen? ⟨g, i, none⟩ = false) ∧ g < w.heap.size :=
  ⟨⟨H.cell 0, H.cell 1, H.cell 2, H.cell 3, H.cell 4, H.cell 5, H.cell 6, H.cell 7, H.cell 8, H.cell 9, H.cell 10, H.cell 11, H.cell 12⟩, H.frozen, H.lt⟩
theorem ret_boolV {a b : Bool} (h : a = true ↔ b = true) : Ending.returned (.bool a) = .returned (.bool b) := by rw [Bool.eq_iff_iff.2 h]
set_option maxRecDepth 100000 in
set_option maxHeartbeats 1000000 in
theorem within_any (t : Bool) (n m : Int) (w : World) (r : Bool) (hr : v8In t n m = r) : Calls Try.prog 54 #[.bool t, .int .i64 n, .int .i64 m] w fun e w' => e = .returned (.bool r) ∧ w = w' := by
  subst hr
  unfold v8In
  cases t
  all_goals
    go_enter Try.func54, Try.ntmps54
    go_wp2
    all_goals go_ret
    all_goals exact ⟨ret_boolV (by simp; try omega), rfl⟩
set_option maxRecDepth 100000 in
set_option maxHeartbeats 1000000 in
theorem widest_any (d : V8) (w : World) : Calls Try.prog 52 #[.agg #[.bool d.alone, .bool d.start, .int .i64 d.part, .bool d.hasPic, .bool d.wide, .int .i64 d.pic, .bool d.hasLevel, .int .i64 d.level, .bool d.hasTid, .bool d.hasKey, .int .i64 d.tid, .bool d.sync, .int .i64 d.key]] w fun e w' => e = .returned (.int .i64 (v8W d)) ∧ Ext w w' := by
  obtain ⟨a, s, p, hp, wi, pc, hl, lv, ht, hk, ti, sy, ky⟩ := d
  unfold v8W
  dsimp only
  cases wi
  all_goals
    go_enter Try.func52, Try.ntmps52
    go_wp2_with fail
    go_ret
    exact ⟨rfl, (Ext.refl _).alloc _⟩
set_option maxRecDepth 100000 in
set_option maxHeartbeats 1000000 in
theorem flag_any (b : Bool) (n : Nat) (w : World) : Calls Try.prog 48 #[.bool b, .int .u8 (n : Int)] w fun e w' => e = .returned (.int .u8 ((if b then n else 0 : Nat) : Int)) ∧ w = w' := by
  cases b
  all_goals
    go_enter Try.func48, Try.ntmps48
    go_wp2_with fail
    go_ret
    exact ⟨rfl, rfl⟩
set_option maxRecDepth 100000 in
set_option maxHeartbeats 4000000 in
theorem v8right_any (d : V8) (w : World) (r : Bool) (hr : v8Right d = r) : Calls Try.prog 25 #[.agg #[.bool d.alone, .bool d.start, .int .i64 d.part, .bool d.hasPic, .bool d.wide, .int .i64 d.pic, .bool d.hasLevel, .int .i64 d.level, .bool d.hasTid, .bool d.hasKey, .int .i64 d.tid, .bool d.sync, .int .i64 d.key]] w fun e w' => e = .returned (.bool r) ∧ Ext w w' := by
  have hbx := Blk.new w 45 #[.bool d.alone, .bool d.start, .int .i64 d.part, .bool d.hasPic, .bool d.wide, .int .i64 d.pic, .bool d.hasLevel, .int .i64 d.level, .bool d.hasTid, .bool d.hasKey, .int .i64 d.tid, .bool d.sync, .int .i64 d.key]
  have hE := (Ext.refl w).alloc (.cells #[.bool d.alone, .bool d.start, .int .i64 d.part, .bool d.hasPic, .bool d.wide, .int .i64 d.pic, .bool d.hasLevel, .int .i64 d.level, .bool d.hasTid, .bool d.hasKey, .int .i64 d.tid, .bool d.sync, .int .i64 d.key] 45)
  obtain ⟨r1, h1⟩ : ∃ x, v8In true d.part 7 = x := ⟨_, rfl⟩
  obtain ⟨r2, h2⟩ : ∃ x, v8In d.hasPic d.pic (v8W d) = x := ⟨_, rfl⟩
  obtain ⟨r3, h3⟩ : ∃ x, v8In d.hasLevel d.level 255 = x := ⟨_, rfl⟩
  obtain ⟨r4, h4⟩ : ∃ x, v8In d.hasTid d.tid 3 = x := ⟨_, rfl⟩
  obtain ⟨r5, h5⟩ : ∃ x, v8In d.hasKey d.key 31 = x := ⟨_, rfl⟩
  have S1 := hide (fun W => within_any true d.part 7 W r1 h1)
  have S2 := hide (fun W => within_any d.hasPic d.pic (v8W d) W r2 h2)
  have S3 := hide (fun W => within_any d.hasLevel d.level 255 W r3 h3)
  have S4 := hide (fun W => within_any d.hasTid d.tid 3 W r4 h4)
  have S5 := hide (fun W => within_any d.hasKey d.key 31 W r5 h5)
  have SW := hide (fun W => widest_any d W)
  unfold v8Right at hr
  rw [h1, h2, h3, h4, h5] at hr
  clear h1 h2 h3 h4 h5
  obtain ⟨a, s, p, hp, wi, pc, hl, lv, ht, hk, ti, sy, ky⟩ := d
  dsimp only at *
  obtain ⟨W0, hW0⟩ : ∃ x, v8W ⟨a, s, p, hp, wi, pc, hl, lv, ht, hk, ti, sy, ky⟩ = x := ⟨_, rfl⟩
  rw [hW0] at S2 SW
  clear hW0
  obtain ⟨⟨u0, u1, u2, u3, u4, u5, u6, u7, u8, u9, u10, u11, u12⟩, _, _⟩ := hbx.thirteen
  cases r1
  · obtain rfl : false = r := by rw [← hr]; rfl
    go_enter Try.func25, Try.ntmps25
    go_wp2_with (go_at_call 54; refine (S1.out _).mono ?_; rintro e w' ⟨rfl, rfl⟩)
    go_ret
    exact ⟨rfl, hE⟩
  · go_enter Try.func25, Try.ntmps25
    go_upto_region 2 with (go_at_call 54; refine (S1.out _).mono ?_; rintro e w' ⟨rfl, rfl⟩)
    generalize hgw : w.alloc (.cells #[.bool a, .bool s, .int .i64 p, .bool hp, .bool wi, .int .i64 pc, .bool hl, .int .i64 lv, .bool ht, .bool hk, .int .i64 ti, .bool sy, .int .i64 ky] 45) = w1 at *
    clear hgw
    clear u0 u1 u2 u3 u4 u5 u6 u7 u8 u9 u10 u11 u12
    refine regE_start (by kernel_rfl) ?_
    have hR := (Ext.refl w1).drew
    generalize hgw : (w1).drew = wr0 at *
    clear hgw
    refine regE_take (i := 0) (v := ?_) rfl (by kernel_rfl) (by kernel_rfl) (by kernel_rfl) (fun _ _ _ h => h) (by rfl) ?_ ?_
    rotate_left
    · intro W hW; go_simp; try with_reducible rfl
    simp only [Act.put, List.setIfInBounds_toArray, List.set_cons_zero, List.set_cons_succ]
    refine regE_take (i := 1) (v := ?_) rfl (by kernel_rfl) (by kernel_rfl) (by kernel_rfl) (fun _ _ _ h => h) (by rfl) ?_ ?_
    rotate_left
    · intro W hW; obtain ⟨⟨u0, u1, u2, u3, u4, u5, u6, u7, u8, u9, u10, u11, u12⟩, _, _⟩ := (hbx.below hW hbx.lt).thirteen; go_simp; try with_reducible rfl
    simp only [Act.put, List.setIfInBounds_toArray, List.set_cons_zero, List.set_cons_succ]
    refine regE_take (i := 2) (v := ?_) rfl (by kernel_rfl) (by kernel_rfl) (by kernel_rfl) (fun _ _ _ h => h) (by rfl) ?_ ?_
    rotate_left
    · intro W hW; go_simp; try with_reducible rfl
    simp only [Act.put, List.setIfInBounds_toArray, List.set_cons_zero, List.set_cons_succ]
    refine regE_take (i := 3) (v := ?_) rfl (by kernel_rfl) (by kernel_rfl) (by kernel_rfl) (fun _ _ _ h => h) (by rfl) ?_ ?_
    rotate_left
    · intro W hW; obtain ⟨⟨u0, u1, u2, u3, u4, u5, u6, u7, u8, u9, u10, u11, u12⟩, _, _⟩ := (hbx.below hW hbx.lt).thirteen; go_simp; try with_reducible rfl
    simp only [Act.put, List.setIfInBounds_toArray, List.set_cons_zero, List.set_cons_succ]
    refine regE_take (i := 4) (v := ?_) rfl (by kernel_rfl) (by kernel_rfl) (by kernel_rfl) (fun _ _ _ h => h) (by rfl) ?_ ?_
    rotate_left
    · intro W hW; obtain ⟨⟨u0, u1, u2, u3, u4, u5, u6, u7, u8, u9, u10, u11, u12⟩, _, _⟩ := (hbx.below hW hbx.lt).thirteen; go_simp; try with_reducible rfl
    simp only [Act.put, List.setIfInBounds_toArray, List.set_cons_zero, List.set_cons_succ]
    refine regE_do (i := 5) rfl (by kernel_rfl) (fun K hK => ?_)
    rw [if_pos (by rfl)]
    go_simp
    refine (SW.out _).mono ?_
    rintro e wr1 ⟨rfl, hXX⟩
    refine hK.out _ _ (hR.trans hXX) ?_
    clear hK K
    replace hR := hR.trans hXX
    clear hXX
    try simp only [Act.put, List.setIfInBounds_toArray, List.set_cons_zero, List.set_cons_succ]
    refine regE_do (i := 6) rfl (by kernel_rfl) (fun K hK => ?_)
    rw [if_pos (by rfl)]
    go_simp
    refine (S2.out _).mono ?_
    rintro e w' ⟨rfl, rfl⟩
    refine hK.out _ _ hR ?_
    clear hK K
    try simp only [Act.put, List.setIfInBounds_toArray, List.set_cons_zero, List.set_cons_succ]
    refine regE_take (i := 7) (v := ?_) rfl (by kernel_rfl) (by kernel_rfl) (by kernel_rfl) (fun _ _ _ h => h) (by rfl) ?_ ?_
    rotate_left
    · intro W hW; go_simp; try with_reducible rfl
    simp only [Act.put, List.setIfInBounds_toArray, List.set_cons_zero, List.set_cons_succ]
    refine regE_take (i := 8) (v := ?_) rfl (by kernel_rfl) (by kernel_rfl) (by kernel_rfl) (fun _ _ _ h => h) (by rfl) ?_ ?_
    rotate_left
    · intro W hW; go_simp; try with_reducible rfl
    simp only [Act.put, List.setIfInBounds_toArray, List.set_cons_zero, List.set_cons_succ]
    refine regE_done (by kernel_rfl) ?_
    replace hbx := hbx.below hR hbx.lt
    replace hE := hE.trans hR
    obtain ⟨⟨u0, u1, u2, u3, u4, u5, u6, u7, u8, u9, u10, u11, u12⟩, _, _⟩ := hbx.thirteen
    cases r2
    · obtain rfl : false = r := by rw [← hr]; rfl
      go_wp2_with fail
      go_ret
      exact ⟨rfl, hE⟩
    cases r3
    · obtain rfl : false = r := by rw [← hr]; simp
      go_wp2_with fail
      refine (S3.out _).mono ?_
      rintro e w' ⟨rfl, rfl⟩
      go_wp2_with fail
      go_ret
      exact ⟨rfl, hE⟩
    cases r4
    · obtain rfl : false = r := by rw [← hr]; simp
      go_wp2_with fail
      refine (S3.out _).mono ?_
      rintro e w' ⟨rfl, rfl⟩
      go_wp2_with fail
      refine (S4.out _).mono ?_
      rintro e w' ⟨rfl, rfl⟩
      go_wp2_with fail
      go_ret
      exact ⟨rfl, hE⟩
    cases r5
    · obtain rfl : false = r := by rw [← hr]; simp
      go_wp2_with fail
      refine (S3.out _).mono ?_
      rintro e w' ⟨rfl, rfl⟩
      go_wp2_with fail
      refine (S4.out _).mono ?_
      rintro e w' ⟨rfl, rfl⟩
      go_wp2_with fail
      refine (S5.out _).mono ?_
      rintro e w' ⟨rfl, rfl⟩
      go_wp2_with fail
      go_ret
      exact ⟨rfl, hE⟩
    simp only [Bool.true_and] at hr
    cases hp
    all_goals
      cases ht
      all_goals
        subst hr
        go_wp2_with fail
        refine (S3.out _).mono ?_
        rintro e w' ⟨rfl, rfl⟩
        go_wp2_with fail
        refine (S4.out _).mono ?_
        rintro e w' ⟨rfl, rfl⟩
        go_wp2_with fail
        refine (S5.out _).mono ?_
        rintro e w' ⟨rfl, rfl⟩
        go_wp2_with fail
        all_goals
          go_ret
          exact ⟨ret_boolV (by simp_all), hE⟩
end Go.Proofs.Ytcdacnhggpfnaaa

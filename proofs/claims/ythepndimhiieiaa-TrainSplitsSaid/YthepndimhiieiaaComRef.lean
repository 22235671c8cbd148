/- The document's reading of a header. -/
import Derived.Test.YthepndimhiieiaaCommon
namespace Go.Proofs.Ythepndimhiieiaa
open Go.RowKit

set_option maxRecDepth 100000 in
set_option maxHeartbeats 1000000 in
theorem rread_any (A : Option Addr) (n c : Nat) (b : List UInt8) (w : World) (hb : Bytes w A n c b) : Calls Try.prog 78 #[.slice A n c] w fun e w' =>
    e = .returned (.tuple #[.agg #[.bool (cP b), .int .i64 (cC b), .int .i64 (cT b), .int .i64 (cS b)], .int .i64 (cE b)]) ∧ Ext w w' := by
  have hlen := hb.len
  have hbn := hb.le
  have hbr := hb.reach
  by_cases h4 : n < 4
  · have e1 : cE b = 2 := by unfold cE; rw [if_pos (by omega)]
    have e2 : cP b = false := by unfold cP; rw [e1]; rfl
    have e3 : cC b = 0 ∧ cT b = 0 ∧ cS b = 0 := by unfold cC cT cS; rw [e1]; exact ⟨rfl, rfl, rfl⟩
    rw [e1, e2, e3.1, e3.2.1, e3.2.2]
    clear e1 e2 e3 hlen
    go_enter Try.func78, Try.ntmps78
    go_wp2
    exact bodyPost_ret (v := .tuple #[.agg #[.bool false, .int .i64 0, .int .i64 0, .int .i64 0], .int .i64 2]) (by simp [results, Try.results78, go_sem]) rfl ⟨rfl, ((Ext.refl _).alloc _)⟩
  · have q0 := b0_lt b
    have q1 := b1_lt b
    have q2 := b2_lt b
    have q3 := b3_lt b
    obtain ⟨g, o, rfl, hg⟩ := hb.plain (by omega)
    have F := hide (fun (W : World) (hW : Ext w W) => (hb.ext hW).head4 (by omega))
    have hc0 := (F.out _ ((Ext.refl w).alloc (.cells #[.bool false, .int .i64 0, .int .i64 0, .int .i64 0] 62))).1
    have n0 : 0 < n := by omega
    have n1 : (1 : Int) < (n : Int) := by omega
    have n2 : (2 : Int) < (n : Int) := by omega
    have n3 : (3 : Int) < (n : Int) := by omega
    by_cases h3 : b0 b < 128 ∨ 191 < b0 b
    · have e1 : cE b = 3 := by unfold cE; rw [if_neg (by omega), if_pos h3]
      have e2 : cP b = false := by unfold cP; rw [e1]; rfl
      have e3 : cC b = 0 ∧ cT b = 0 ∧ cS b = 0 := by unfold cC cT cS; rw [e1]; exact ⟨rfl, rfl, rfl⟩
      rw [e1, e2, e3.1, e3.2.1, e3.2.2]
      clear e1 e2 e3 hlen
      by_cases h31 : b0 b < 128
      all_goals
        go_enter Try.func78, Try.ntmps78
        go_wp2
        exact bodyPost_ret (v := .tuple #[.agg #[.bool false, .int .i64 0, .int .i64 0, .int .i64 0], .int .i64 3]) (by simp [results, Try.results78, go_sem]) rfl ⟨rfl, ((Ext.refl _).alloc _)⟩
    · obtain ⟨h31, h32⟩ : 128 ≤ b0 b ∧ b0 b ≤ 191 := by omega
      have hcE : cE b = if n < 4 * (256 * b2 b + b3 b + 1) then 4 else 0 := by unfold cE; rw [if_neg (by omega), if_neg (by omega), hlen]
      have HCE := hide hcE
      clear hcE hlen h3
      go_enter Try.func78, Try.ntmps78
      go_wp2
      have f0 := fun W hW => (F.out W hW).1
      have f1 := fun W hW => (F.out W hW).2.1
      have f2 := fun W hW => (F.out W hW).2.2.1
      have f3 := fun W hW => (F.out W hW).2.2.2
      refine regE_start_at ((Ext.refl w).alloc _) (by kernel_rfl) ?_
      refine regE_take (i := 0) (v := ?_) rfl (by kernel_rfl) (by kernel_rfl) (by kernel_rfl) (fun _ _ _ h => h) (by rfl) ?_ ?_
      rotate_left
      · intro W hW; go_simp; try with_reducible rfl
      simp only [Act.put, List.setIfInBounds_toArray, List.set_cons_zero, List.set_cons_succ]
      refine regE_take (i := 1) (v := ?_) rfl (by kernel_rfl) (by kernel_rfl) (by kernel_rfl) (fun _ _ _ h => h) (by rfl) ?_ ?_
      rotate_left
      · intro W hW; go_simp; try with_reducible rfl
      simp only [Act.put, List.setIfInBounds_toArray, List.set_cons_zero, List.set_cons_succ]
      refine regE_take (i := 2) (v := ?_) rfl (by kernel_rfl) (by kernel_rfl) (by kernel_rfl) (fun _ _ _ h => h) (by rfl) ?_ ?_
      rotate_left
      · intro W hW; go_simp; try with_reducible rfl
      simp only [Act.put, List.setIfInBounds_toArray, List.set_cons_zero, List.set_cons_succ]
      refine regE_take (i := 3) (v := ?_) rfl (by kernel_rfl) (by kernel_rfl) (by kernel_rfl) (fun _ _ _ h => h) (by rfl) ?_ ?_
      rotate_left
      · intro W hW; go_simp; try with_reducible rfl
      simp only [Act.put, List.setIfInBounds_toArray, List.set_cons_zero, List.set_cons_succ]
      refine regE_take (i := 4) (v := ?_) rfl (by kernel_rfl) (by kernel_rfl) (by kernel_rfl) (fun _ _ _ h => h) (by rfl) ?_ ?_
      rotate_left
      · intro W hW; go_simp; try with_reducible rfl
      simp only [Act.put, List.setIfInBounds_toArray, List.set_cons_zero, List.set_cons_succ]
      refine regE_take (i := 5) (v := ?_) rfl (by kernel_rfl) (by kernel_rfl) (by kernel_rfl) (fun _ _ _ h => h) (by rfl) ?_ ?_
      rotate_left
      · intro W hW; go_simp; try with_reducible rfl
      simp only [Act.put, List.setIfInBounds_toArray, List.set_cons_zero, List.set_cons_succ]
      refine regE_take (i := 6) (v := ?_) rfl (by kernel_rfl) (by kernel_rfl) (by kernel_rfl) (fun _ _ _ h => h) (by rfl) ?_ ?_
      rotate_left
      · intro W hW; go_simp; try with_reducible rfl
      simp only [Act.put, List.setIfInBounds_toArray, List.set_cons_zero, List.set_cons_succ]
      refine regE_take (i := 7) (v := ?_) rfl (by kernel_rfl) (by kernel_rfl) (by kernel_rfl) (fun _ _ _ h => h) (by rfl) ?_ ?_
      rotate_left
      · intro W hW; go_simp; try with_reducible rfl
      simp only [Act.put, List.setIfInBounds_toArray, List.set_cons_zero, List.set_cons_succ]
      refine regE_take (i := 8) (v := ?_) rfl (by kernel_rfl) (by kernel_rfl) (by kernel_rfl) (fun _ _ _ h => h) (by rfl) ?_ ?_
      rotate_left
      · intro W hW; go_simp; try with_reducible rfl
      simp only [Act.put, List.setIfInBounds_toArray, List.set_cons_zero, List.set_cons_succ]
      refine regE_take (i := 9) (v := ?_) rfl (by kernel_rfl) (by kernel_rfl) (by kernel_rfl) (fun _ _ _ h => h) (by rfl) ?_ ?_
      rotate_left
      · intro W hW; go_simp; try with_reducible rfl
      simp only [Act.put, List.setIfInBounds_toArray, List.set_cons_zero, List.set_cons_succ]
      refine regE_take (i := 10) (v := ?_) rfl (by kernel_rfl) (by kernel_rfl) (by kernel_rfl) (fun _ _ _ h => h) (by rfl) ?_ ?_
      rotate_left
      · intro W hW; go_simp; try with_reducible rfl
      simp only [Act.put, List.setIfInBounds_toArray, List.set_cons_zero, List.set_cons_succ]
      refine regE_take (i := 11) (v := ?_) rfl (by kernel_rfl) (by kernel_rfl) (by kernel_rfl) (fun _ _ _ h => h) (by rfl) ?_ ?_
      rotate_left
      · intro W hW; go_simp; try with_reducible rfl
      simp only [Act.put, List.setIfInBounds_toArray, List.set_cons_zero, List.set_cons_succ]
      refine regE_take (i := 12) (v := ?_) rfl (by kernel_rfl) (by kernel_rfl) (by kernel_rfl) (fun _ _ _ h => h) (by rfl) ?_ ?_
      rotate_left
      · intro W hW; go_simp; try with_reducible rfl
      simp only [Act.put, List.setIfInBounds_toArray, List.set_cons_zero, List.set_cons_succ]
      refine regE_done (by kernel_rfl) ?_
      have k7 : IntKind.i64.wrap (4 * IntKind.i64.wrap (IntKind.i64.wrap (IntKind.i64.wrap (256 * IntKind.i64.wrap (b2 b : Int)) + IntKind.i64.wrap (b3 b : Int)) + 1)) = ((4 * (256 * b2 b + b3 b + 1) : Nat) : Int) := by
        rw [IntWalk.i64_in (b2 b) (by omega), IntWalk.i64_in (b3 b) (by omega), IntWalk.i64_in (256 * (b2 b : Int)) (by omega), IntWalk.i64_in (256 * (b2 b : Int) + (b3 b : Int)) (by omega), IntWalk.i64_in (256 * (b2 b : Int) + (b3 b : Int) + 1) (by omega), IntWalk.i64_in _ (by omega)]
        omega
      rw [k7]
      clear k7
      obtain ⟨sz, hsz⟩ : ∃ sz, 4 * (256 * b2 b + b3 b + 1) = sz := ⟨_, rfl⟩
      rw [hsz] at HCE ⊢
      have hszb : sz ≤ 262144 := by omega
      have HS := hide hsz
      clear hsz f0 f1 f2 f3
      by_cases h2 : n < sz
      · have hcE := HCE.out
        rw [if_pos h2] at hcE
        have e2 : cP b = false := by unfold cP; rw [hcE]; rfl
        have e3 : cC b = 0 ∧ cT b = 0 ∧ cS b = 0 := by unfold cC cT cS; rw [hcE]; exact ⟨rfl, rfl, rfl⟩
        have HR := hide (And.intro hcE (And.intro e2 e3))
        clear hcE e2 e3
        go_wp2_with fail
        refine bodyPost_ret (v := .tuple #[.agg #[.bool false, .int .i64 0, .int .i64 0, .int .i64 0], .int .i64 4]) (by simp [results, Try.results78, go_sem]) rfl ?_
        rw [HR.out.1, HR.out.2.1, HR.out.2.2.1, HR.out.2.2.2.1, HR.out.2.2.2.2]
        exact ⟨rfl, ((Ext.refl _).alloc _).drew⟩
      · have hcE := HCE.out
        rw [if_neg h2] at hcE
        have e2 : cP b = decide (160 ≤ b0 b) := by unfold cP; rw [hcE]; rfl
        have e3 : cC b = b0 b % 32 ∧ cT b = b1 b ∧ cS b = sz := by unfold cC cT cS; rw [hcE]; exact ⟨rfl, rfl, HS.out⟩
        have HR := hide (And.intro hcE (And.intro e2 e3))
        clear hcE e2 e3
        go_wp2_with fail
        have f0 := fun W hW => (F.out W hW).1
        have f1 := fun W hW => (F.out W hW).2.1
        refine regE_start_at (((Ext.refl w).alloc _).drew) (by kernel_rfl) ?_
        refine regE_take (i := 0) (v := ?_) rfl (by kernel_rfl) (by kernel_rfl) (by kernel_rfl) (fun _ _ _ h => h) (by rfl) ?_ ?_
        rotate_left
        · intro W hW; go_simp; try with_reducible rfl
        simp only [Act.put, List.setIfInBounds_toArray, List.set_cons_zero, List.set_cons_succ]
        refine regE_take (i := 1) (v := ?_) rfl (by kernel_rfl) (by kernel_rfl) (by kernel_rfl) (fun _ _ _ h => h) (by rfl) ?_ ?_
        rotate_left
        · intro W hW; go_simp; try with_reducible rfl
        simp only [Act.put, List.setIfInBounds_toArray, List.set_cons_zero, List.set_cons_succ]
        refine regE_take (i := 2) (v := ?_) rfl (by kernel_rfl) (by kernel_rfl) (by kernel_rfl) (fun _ _ _ h => h) (by rfl) ?_ ?_
        rotate_left
        · intro W hW; go_simp; try with_reducible rfl
        simp only [Act.put, List.setIfInBounds_toArray, List.set_cons_zero, List.set_cons_succ]
        refine regE_take (i := 3) (v := ?_) rfl (by kernel_rfl) (by kernel_rfl) (by kernel_rfl) (fun _ _ _ h => h) (by rfl) ?_ ?_
        rotate_left
        · intro W hW; go_simp; try with_reducible rfl
        simp only [Act.put, List.setIfInBounds_toArray, List.set_cons_zero, List.set_cons_succ]
        refine regE_take (i := 4) (v := ?_) rfl (by kernel_rfl) (by kernel_rfl) (by kernel_rfl) (fun _ _ _ h => h) (by rfl) ?_ ?_
        rotate_left
        · intro W hW; go_simp; try with_reducible rfl
        simp only [Act.put, List.setIfInBounds_toArray, List.set_cons_zero, List.set_cons_succ]
        refine regE_take (i := 5) (v := ?_) rfl (by kernel_rfl) (by kernel_rfl) (by kernel_rfl) (fun _ _ _ h => h) (by rfl) ?_ ?_
        rotate_left
        · intro W hW; go_simp; try with_reducible rfl
        simp only [Act.put, List.setIfInBounds_toArray, List.set_cons_zero, List.set_cons_succ]
        refine regE_take (i := 6) (v := ?_) rfl (by kernel_rfl) (by kernel_rfl) (by kernel_rfl) (fun _ _ _ h => h) (by rfl) ?_ ?_
        rotate_left
        · intro W hW; go_simp; try with_reducible rfl
        simp only [Act.put, List.setIfInBounds_toArray, List.set_cons_zero, List.set_cons_succ]
        refine regE_take (i := 7) (v := ?_) rfl (by kernel_rfl) (by kernel_rfl) (by kernel_rfl) (fun _ _ _ h => h) (by rfl) ?_ ?_
        rotate_left
        · intro W hW; go_simp; try with_reducible rfl
        simp only [Act.put, List.setIfInBounds_toArray, List.set_cons_zero, List.set_cons_succ]
        refine regE_take (i := 8) (v := ?_) rfl (by kernel_rfl) (by kernel_rfl) (by kernel_rfl) (fun _ _ _ h => h) (by rfl) ?_ ?_
        rotate_left
        · intro W hW; go_simp; try with_reducible rfl
        simp only [Act.put, List.setIfInBounds_toArray, List.set_cons_zero, List.set_cons_succ]
        refine regE_take (i := 9) (v := ?_) rfl (by kernel_rfl) (by kernel_rfl) (by kernel_rfl) (fun _ _ _ h => h) (by rfl) ?_ ?_
        rotate_left
        · intro W hW; go_simp; try with_reducible rfl
        simp only [Act.put, List.setIfInBounds_toArray, List.set_cons_zero, List.set_cons_succ]
        refine regE_take (i := 10) (v := ?_) rfl (by kernel_rfl) (by kernel_rfl) (by kernel_rfl) (fun _ _ _ h => h) (by rfl) ?_ ?_
        rotate_left
        · intro W hW; go_simp; try with_reducible rfl
        simp only [Act.put, List.setIfInBounds_toArray, List.set_cons_zero, List.set_cons_succ]
        refine regE_take (i := 11) (v := ?_) rfl (by kernel_rfl) (by kernel_rfl) (by kernel_rfl) (fun _ _ _ h => h) (by rfl) ?_ ?_
        rotate_left
        · intro W hW; go_simp; try with_reducible rfl
        simp only [Act.put, List.setIfInBounds_toArray, List.set_cons_zero, List.set_cons_succ]
        refine regE_take (i := 12) (v := ?_) rfl (by kernel_rfl) (by kernel_rfl) (by kernel_rfl) (fun _ _ _ h => h) (by rfl) ?_ ?_
        rotate_left
        · intro W hW; go_simp; try with_reducible rfl
        simp only [Act.put, List.setIfInBounds_toArray, List.set_cons_zero, List.set_cons_succ]
        refine regE_take (i := 13) (v := ?_) rfl (by kernel_rfl) (by kernel_rfl) (by kernel_rfl) (fun _ _ _ h => h) (by rfl) ?_ ?_
        rotate_left
        · intro W hW; go_simp; try with_reducible rfl
        simp only [Act.put, List.setIfInBounds_toArray, List.set_cons_zero, List.set_cons_succ]
        refine regE_take (i := 14) (v := ?_) rfl (by kernel_rfl) (by kernel_rfl) (by kernel_rfl) (fun _ _ _ h => h) (by rfl) ?_ ?_
        rotate_left
        · intro W hW; go_simp; try with_reducible rfl
        simp only [Act.put, List.setIfInBounds_toArray, List.set_cons_zero, List.set_cons_succ]
        refine regE_do (i := 15) rfl (by kernel_rfl) (fun K hK => ?_)
        rw [if_pos (by rfl)]
        go_simp
        refine hK.out _ _ (((Ext.refl _).alloc _).drew.drew) ?_
        clear hK K
        try simp only [Act.put, List.setIfInBounds_toArray, List.set_cons_zero, List.set_cons_succ]
        refine regE_take (i := 16) (v := ?_) rfl (by kernel_rfl) (by kernel_rfl) (by kernel_rfl) (fun _ _ _ h => h) (by rfl) ?_ ?_
        rotate_left
        · intro W hW; go_simp; try with_reducible rfl
        simp only [Act.put, List.setIfInBounds_toArray, List.set_cons_zero, List.set_cons_succ]
        refine regE_done (by kernel_rfl) ?_
        have k1 : IntKind.i64.wrap ((b0 b : Int).tmod 32) = ((b0 b % 32 : Nat) : Int) := by
          rw [Int.tmod_eq_emod_of_nonneg (by omega), IntWalk.i64_in _ (by omega)]
          omega
        have k2 : IntKind.i64.wrap (b1 b : Int) = (b1 b : Int) := IntWalk.i64_in _ (by omega)
        have k3 : decide ((160 : Int) ≤ (b0 b : Int)) = decide (160 ≤ b0 b) := by rw [decide_eq_decide]; omega
        rw [k1, k2, k3]
        clear k1 k2 k3 f0 f1
        go_wp2_with fail
        refine bodyPost_ret (v := .tuple #[.agg #[.bool (decide (160 ≤ b0 b)), .int .i64 (b0 b % 32 : Nat), .int .i64 (b1 b), .int .i64 sz], .int .i64 0]) (by simp [results, Try.results78, go_sem]) rfl ?_
        rw [HR.out.1, HR.out.2.1, HR.out.2.2.1, HR.out.2.2.2.1, HR.out.2.2.2.2]
        exact ⟨rfl, ((Ext.refl _).alloc _).drew.drew⟩
end Go.Proofs.Ythepndimhiieiaa

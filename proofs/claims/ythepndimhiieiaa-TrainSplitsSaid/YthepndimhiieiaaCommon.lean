/- Package common, and the document's answer. -/
import Derived.Test.YthepndimhiieiaaOctB
import Derived.Test.YthepndimhiieiaaReg
import Derived.Test.YthepndimhiieiaaPlainCom
namespace Go.Proofs.Ythepndimhiieiaa
open Go.RowKit

theorem ret_bool {a b : Bool} (h : a = true ↔ b = true) : Ending.returned (.bool a) = .returned (.bool b) := by rw [Bool.eq_iff_iff.2 h]
set_option maxHeartbeats 1000000 in
theorem cright_any (p : Bool) (c t s : Int) (w : World) : Calls Try.prog 99 #[.agg #[.bool p, .int .i64 c, .int .i64 t, .int .i64 s]] w fun e w' => e = .returned (.bool (cRight c t s)) ∧ Ext w w' := by
  go_enter Try.func99, Try.ntmps99
  go_wp2
  all_goals go_ret
  all_goals exact ⟨ret_bool (by simp [cRight]; try omega), (Ext.refl _).alloc _⟩
theorem Blk.four {w : World} {g : Nat} {t : TypeId} {a b c d : Value} (h : Blk w g t #[a, b, c, d]) :
    (w.cell? ⟨g, 0, none⟩ = some a ∧ w.cell? ⟨g, 1, none⟩ = some b ∧ w.cell? ⟨g, 2, none⟩ = some c ∧ w.cell? ⟨g, 3, none⟩ = some d) ∧
    (w.frozen? ⟨g, 0, none⟩ = false ∧ w.frozen? ⟨g, 1, none⟩ = false ∧ w.frozen? ⟨g, 2, none⟩ = false ∧ w.frozen? ⟨g, 3, none⟩ = false) ∧ g < w.heap.size :=
  ⟨⟨h.cell 0, h.cell 1, h.cell 2, h.cell 3⟩, ⟨h.frozen 0, h.frozen 1, h.frozen 2, h.frozen 3⟩, h.lt⟩
theorem Bytes.plain {w : World} {A : Option Addr} {n c : Nat} {b : List UInt8} (h : Bytes w A n c b) (hn : 0 < n) :
    ∃ g o, A = some ⟨g, o, none⟩ ∧ g < w.heap.size := by
  obtain ⟨⟨g, o, sp⟩, rfl, hg⟩ := h.addr hn
  have h1 := h.cell (k := 0) hn
  have hs : sp = none := by simpa [Addr.add] using World.cell?_spot h1
  subst hs
  exact ⟨g, o, rfl, hg⟩
theorem Bytes.cellK {w : World} {g o : Nat} {n c : Nat} {b : List UInt8} (h : Bytes w (some ⟨g, o, none⟩) n c b) (k : Nat) (hn : k < n) : w.cell? ⟨g, o + k, none⟩ = some (.int .u8 ((b.getD k 0).toNat : Int)) := by
  have h1 := h.cell hn
  rw [add_base] at h1
  rw [h1]
  simp [List.getD, show k < b.length by rw [h.len]; exact hn]
theorem Bytes.head4 {w : World} {g o : Nat} {n c : Nat} {b : List UInt8} (h : Bytes w (some ⟨g, o, none⟩) n c b) (hn : 4 ≤ n) :
    w.cell? ⟨g, o, none⟩ = some (.int .u8 (b0 b : Int)) ∧ w.cell? ⟨g, o + 1, none⟩ = some (.int .u8 (b1 b : Int)) ∧ w.cell? ⟨g, o + 2, none⟩ = some (.int .u8 (b2 b : Int)) ∧ w.cell? ⟨g, o + 3, none⟩ = some (.int .u8 (b3 b : Int)) :=
  ⟨h.cellK 0 (by omega), h.cellK 1 (by omega), h.cellK 2 (by omega), h.cellK 3 (by omega)⟩
set_option maxHeartbeats 1000000 in
theorem cread_any (A : Option Addr) (n c : Nat) (b : List UInt8) (w : World) (hb : Bytes w A n c b) : Calls Try.prog 76 #[.slice A n c] w fun e w' =>
    e = .returned (.tuple #[.agg #[.bool (cP b), .int .i64 (cC b), .int .i64 (cT b), .int .i64 (cS b)], .int .i64 (cE b)]) ∧ Ext w w' := by
  have hlen := hb.len
  by_cases h4 : n < 4
  · have e1 : cE b = 2 := by unfold cE; rw [if_pos (by omega)]
    have e2 : cP b = false := by unfold cP; rw [e1]; rfl
    have e3 : cC b = 0 ∧ cT b = 0 ∧ cS b = 0 := by unfold cC cT cS; rw [e1]; exact ⟨rfl, rfl, rfl⟩
    have g1 : getE b.length 2 2 = 2 := by unfold getE; rw [if_neg (by omega), if_pos (by omega)]
    have g2 : getV b 2 2 = 0 := by unfold getV; rw [g1]; rfl
    have S := hide (fun W A c hb => get_B A n c b 2 2 W hb 0 g2 2 g1)
    rw [e1, e2, e3.1, e3.2.1, e3.2.2]
    clear e1 e2 e3 g1 g2 hlen
    go_enter Try.func76, Try.ntmps76
    go_wp2_with fail
    refine (S.out _ _ _ (hb.alloc _)).mono ?_
    rintro e w' ⟨rfl, rfl⟩
    go_wp2
    exact bodyPost_ret (v := .tuple #[.agg #[.bool false, .int .i64 0, .int .i64 0, .int .i64 0], .int .i64 2]) (by simp [results, Try.results76, go_sem]) rfl ⟨rfl, ((Ext.refl _).alloc _)⟩
  · have g1 : getE b.length 2 2 = 0 := getE_of (by omega) (by omega) (by omega) (by omega)
    have g2 : getV b 2 2 = 256 * b2 b + b3 b := by
      unfold getV
      rw [if_pos g1]
      obtain ⟨x0, x1, x2, x3, r, rfl⟩ : ∃ x0 x1 x2 x3 r, b = x0 :: x1 :: x2 :: x3 :: r := by
        match b, hlen with
        | x0 :: x1 :: x2 :: x3 :: r, _ => exact ⟨x0, x1, x2, x3, r, rfl⟩
        | [], h => simp at h; omega
        | [_], h => simp at h; omega
        | [_, _], h => simp at h; omega
        | [_, _, _], h => simp at h; omega
      simp [val, b2, b3]
    have S := hide (fun W A c hb => get_B A n c b 2 2 W hb _ g2 0 g1)
    have q0 := b0_lt b
    have q1 := b1_lt b
    have q2 := b2_lt b
    have q3 := b3_lt b
    obtain ⟨g, o, rfl, hg⟩ := hb.plain (by omega)
    by_cases h3 : b0 b < 128 ∨ 191 < b0 b
    · have e1 : cE b = 3 := by unfold cE; rw [if_neg (by omega), if_pos h3]
      have e2 : cP b = false := by unfold cP; rw [e1]; rfl
      have e3 : cC b = 0 ∧ cT b = 0 ∧ cS b = 0 := by unfold cC cT cS; rw [e1]; exact ⟨rfl, rfl, rfl⟩
      have hne : ((b0 b : Int) / 64 != 2) = true := by rw [bne_iff_ne]; omega
      rw [e1, e2, e3.1, e3.2.1, e3.2.2]
      clear e1 e2 e3 g1 g2 hlen
      have hb' := hb.alloc (.cells #[.bool false, .int .i64 0, .int .i64 0, .int .i64 0] 62)
      obtain ⟨hc0, _⟩ := hb'.head4 (by omega)
      go_enter Try.func76, Try.ntmps76
      go_wp2_with fail
      refine (S.out _ _ _ hb').mono ?_
      rintro e w' ⟨rfl, rfl⟩
      go_wp2
      exact bodyPost_ret (v := .tuple #[.agg #[.bool false, .int .i64 0, .int .i64 0, .int .i64 0], .int .i64 3]) (by simp [results, Try.results76, go_sem]) rfl ⟨rfl, ((Ext.refl _).alloc _)⟩
    · have hne : ((b0 b : Int) / 64 != 2) = false := by rw [bne_eq_false_iff_eq]; omega
      obtain ⟨h31, h32⟩ : 128 ≤ b0 b ∧ b0 b ≤ 191 := by omega
      have n0 : 0 < n := by omega
      have n1 : (1 : Int) < (n : Int) := by omega
      have hb' := hb.alloc (.cells #[.bool false, .int .i64 0, .int .i64 0, .int .i64 0] 62)
      have hbx := Blk.new w 62 #[.bool false, .int .i64 0, .int .i64 0, .int .i64 0]
      have hE0 := (Ext.refl w).alloc (.cells #[.bool false, .int .i64 0, .int .i64 0, .int .i64 0] 62)
      go_enter Try.func76, Try.ntmps76
      go_wp2_with fail
      generalize w.alloc (.cells #[.bool false, .int .i64 0, .int .i64 0, .int .i64 0] 62) = w1 at hb' hbx hE0 ⊢
      have f0 : ∀ W, Ext w1 W → W.cell? ⟨g, o, none⟩ = some (.int .u8 (b0 b : Int)) := fun W hW => ((hb'.ext hW).head4 (by omega)).1
      have f1 : ∀ W, Ext w1 W → W.cell? ⟨g, o + 1, none⟩ = some (.int .u8 (b1 b : Int)) := fun W hW => ((hb'.ext hW).head4 (by omega)).2.1
      have F0 := hide f0
      have F1 := hide f1
      obtain ⟨hc0, hc1, _⟩ := hb'.head4 (by omega)
      clear f0 f1 g1 g2 h3
      refine (S.out _ _ _ hb').mono ?_
      rintro e w' ⟨rfl, rfl⟩
      go_wp2_with fail
      have f0 := F0.out
      have f1 := F1.out
      refine regE_start (by kernel_rfl) ?_
      refine regE_take (i := 0) (v := ?_) rfl (by kernel_rfl) (by kernel_rfl) (by kernel_rfl) (fun _ _ _ h => h) (by rfl) ?_ ?_
      rotate_left
      · intro W hW; go_simp; try with_reducible rfl
      simp only [Act.put, List.setIfInBounds_toArray, List.set_cons_zero, List.set_cons_succ]
      refine regE_take (i := 1) (v := ?_) rfl (by kernel_rfl) (by kernel_rfl) (by kernel_rfl) (fun _ _ _ h => h) (by rfl) ?_ ?_
      rotate_left
      · intro W hW; go_simp; try with_reducible rfl
      simp only [Act.put, List.setIfInBounds_toArray, List.set_cons_zero, List.set_cons_succ]
      refine regE_take (i := 2) (v := ?_) rfl (by kernel_rfl) (by kernel_rfl) (by kernel_rfl) (fun _ _ _ h => h) (by rfl) ?_ ?_
      rotate_left
      · intro W hW; go_simp; try with_reducible rfl
      simp only [Act.put, List.setIfInBounds_toArray, List.set_cons_zero, List.set_cons_succ]
      refine regE_take (i := 3) (v := ?_) rfl (by kernel_rfl) (by kernel_rfl) (by kernel_rfl) (fun _ _ _ h => h) (by rfl) ?_ ?_
      rotate_left
      · intro W hW; go_simp; try with_reducible rfl
      simp only [Act.put, List.setIfInBounds_toArray, List.set_cons_zero, List.set_cons_succ]
      refine regE_take (i := 4) (v := ?_) rfl (by kernel_rfl) (by kernel_rfl) (by kernel_rfl) (fun _ _ _ h => h) (by rfl) ?_ ?_
      rotate_left
      · intro W hW; go_simp; try with_reducible rfl
      simp only [Act.put, List.setIfInBounds_toArray, List.set_cons_zero, List.set_cons_succ]
      refine regE_take (i := 5) (v := ?_) rfl (by kernel_rfl) (by kernel_rfl) (by kernel_rfl) (fun _ _ _ h => h) (by rfl) ?_ ?_
      rotate_left
      · intro W hW; go_simp; try with_reducible rfl
      simp only [Act.put, List.setIfInBounds_toArray, List.set_cons_zero, List.set_cons_succ]
      refine regE_take (i := 6) (v := ?_) rfl (by kernel_rfl) (by kernel_rfl) (by kernel_rfl) (fun _ _ _ h => h) (by rfl) ?_ ?_
      rotate_left
      · intro W hW; go_simp; try with_reducible rfl
      simp only [Act.put, List.setIfInBounds_toArray, List.set_cons_zero, List.set_cons_succ]
      refine regE_take (i := 7) (v := ?_) rfl (by kernel_rfl) (by kernel_rfl) (by kernel_rfl) (fun _ _ _ h => h) (by rfl) ?_ ?_
      rotate_left
      · intro W hW; go_simp; try with_reducible rfl
      simp only [Act.put, List.setIfInBounds_toArray, List.set_cons_zero, List.set_cons_succ]
      refine regE_take (i := 8) (v := ?_) rfl (by kernel_rfl) (by kernel_rfl) (by kernel_rfl) (fun _ _ _ h => h) (by rfl) ?_ ?_
      rotate_left
      · intro W hW; go_simp; try with_reducible rfl
      simp only [Act.put, List.setIfInBounds_toArray, List.set_cons_zero, List.set_cons_succ]
      refine regE_take (i := 9) (v := ?_) rfl (by kernel_rfl) (by kernel_rfl) (by kernel_rfl) (fun _ _ _ h => h) (by rfl) ?_ ?_
      rotate_left
      · intro W hW; go_simp; try with_reducible rfl
      simp only [Act.put, List.setIfInBounds_toArray, List.set_cons_zero, List.set_cons_succ]
      refine regE_take (i := 10) (v := ?_) rfl (by kernel_rfl) (by kernel_rfl) (by kernel_rfl) (fun _ _ _ h => h) (by rfl) ?_ ?_
      rotate_left
      · intro W hW; go_simp; try with_reducible rfl
      simp only [Act.put, List.setIfInBounds_toArray, List.set_cons_zero, List.set_cons_succ]
      refine regE_take (i := 11) (v := ?_) rfl (by kernel_rfl) (by kernel_rfl) (by kernel_rfl) (fun _ _ _ h => h) (by rfl) ?_ ?_
      rotate_left
      · intro W hW; go_simp; try with_reducible rfl
      simp only [Act.put, List.setIfInBounds_toArray, List.set_cons_zero, List.set_cons_succ]
      refine regE_take (i := 12) (v := ?_) rfl (by kernel_rfl) (by kernel_rfl) (by kernel_rfl) (fun _ _ _ h => h) (by rfl) ?_ ?_
      rotate_left
      · intro W hW; go_simp; try with_reducible rfl
      simp only [Act.put, List.setIfInBounds_toArray, List.set_cons_zero, List.set_cons_succ]
      refine regE_take (i := 13) (v := ?_) rfl (by kernel_rfl) (by kernel_rfl) (by kernel_rfl) (fun _ _ _ h => h) (by rfl) ?_ ?_
      rotate_left
      · intro W hW; go_simp; try with_reducible rfl
      simp only [Act.put, List.setIfInBounds_toArray, List.set_cons_zero, List.set_cons_succ]
      refine regE_take (i := 14) (v := ?_) rfl (by kernel_rfl) (by kernel_rfl) (by kernel_rfl) (fun _ _ _ h => h) (by rfl) ?_ ?_
      rotate_left
      · intro W hW; go_simp; try with_reducible rfl
      simp only [Act.put, List.setIfInBounds_toArray, List.set_cons_zero, List.set_cons_succ]
      refine regE_take (i := 15) (v := ?_) rfl (by kernel_rfl) (by kernel_rfl) (by kernel_rfl) (fun _ _ _ h => h) (by rfl) ?_ ?_
      rotate_left
      · intro W hW; go_simp; try with_reducible rfl
      simp only [Act.put, List.setIfInBounds_toArray, List.set_cons_zero, List.set_cons_succ]
      refine regE_take (i := 16) (v := ?_) rfl (by kernel_rfl) (by kernel_rfl) (by kernel_rfl) (fun _ _ _ h => h) (by rfl) ?_ ?_
      rotate_left
      · intro W hW; go_simp; try with_reducible rfl
      simp only [Act.put, List.setIfInBounds_toArray, List.set_cons_zero, List.set_cons_succ]
      refine regE_take (i := 17) (v := ?_) rfl (by kernel_rfl) (by kernel_rfl) (by kernel_rfl) (fun _ _ _ h => h) (by rfl) ?_ ?_
      rotate_left
      · intro W hW; go_simp; try with_reducible rfl
      simp only [Act.put, List.setIfInBounds_toArray, List.set_cons_zero, List.set_cons_succ]
      refine regE_take (i := 18) (v := ?_) rfl (by kernel_rfl) (by kernel_rfl) (by kernel_rfl) (fun _ _ _ h => h) (by rfl) ?_ ?_
      rotate_left
      · intro W hW; go_simp; try with_reducible rfl
      simp only [Act.put, List.setIfInBounds_toArray, List.set_cons_zero, List.set_cons_succ]
      refine regE_do (i := 19) rfl (by kernel_rfl) (fun K hK => ?_)
      rw [if_pos (by rfl)]
      go_simp
      refine hK.out _ _ (((Ext.refl _).alloc _).drew) ?_
      clear hK K
      try simp only [Act.put, List.setIfInBounds_toArray, List.set_cons_zero, List.set_cons_succ]
      refine regE_do (i := 20) rfl (by kernel_rfl) (fun K hK => ?_)
      rw [if_pos (by rfl)]
      go_simp
      refine hK.out _ _ (((Ext.refl _).alloc _).drew) ?_
      clear hK K
      try simp only [Act.put, List.setIfInBounds_toArray, List.set_cons_zero, List.set_cons_succ]
      refine regE_done (by kernel_rfl) ?_
      have k1 : bits .and .u8 (b0 b : Int) 31 = ((b0 b % 32 : Nat) : Int) := by
        have h := u8_and_nat (b0 b) 31 q0 (by omega)
        rw [and31] at h
        exact h
      have k2 : decide (0 < bits .and .u8 (b0 b : Int) 32) = decide (160 ≤ b0 b) := by
        have h := u8_and_nat (b0 b) 32 q0 (by omega)
        rw [and32] at h
        have h' : bits .and .u8 (b0 b : Int) 32 = ((b0 b / 32 % 2 * 32 : Nat) : Int) := h
        rw [h', decide_eq_decide]
        omega
      have k3 : IntKind.i64.wrap ((b0 b % 32 : Nat) : Int) = ((b0 b % 32 : Nat) : Int) := IntWalk.i64_in _ (by omega)
      have k4 : IntKind.i64.wrap (b1 b : Int) = (b1 b : Int) := IntWalk.i64_in _ (by omega)
      have k5 : IntKind.i64.wrap (256 * (b2 b : Int) + (b3 b : Int)) = 256 * (b2 b : Int) + (b3 b : Int) := IntWalk.i64_in _ (by omega)
      have k6 : IntKind.i64.wrap (256 * (b2 b : Int) + (b3 b : Int) + 1) = 256 * (b2 b : Int) + (b3 b : Int) + 1 := IntWalk.i64_in _ (by omega)
      have k7 : IntKind.i64.wrap (4 * (256 * (b2 b : Int) + (b3 b : Int) + 1)) = ((4 * (256 * b2 b + b3 b + 1) : Nat) : Int) := by rw [IntWalk.i64_in _ (by omega)]; omega
      rw [k1, k2, k3, k4, k5, k6, k7]
      clear k1 k2 k3 k4 k5 k6 k7 f0 f1
      obtain ⟨sz, hsz⟩ : ∃ sz, 4 * (256 * b2 b + b3 b + 1) = sz := ⟨_, rfl⟩
      obtain ⟨ct, hct⟩ : ∃ ct, b0 b % 32 = ct := ⟨_, rfl⟩
      obtain ⟨pd, hpd⟩ : ∃ pd, decide (160 ≤ b0 b) = pd := ⟨_, rfl⟩
      rw [hsz, hct, hpd]
      have hcE : cE b = if n < sz then 4 else 0 := by unfold cE; rw [if_neg (by omega), if_neg (by omega), hsz, hlen]
      have HS := hide hsz
      have HC := hide hct
      have HP := hide hpd
      have hszb : sz ≤ 262144 := by omega
      clear hsz hct hpd
      obtain ⟨⟨u0, u1, u2, u3⟩, ⟨v0, v1, v2, v3⟩, hlt⟩ := hbx.four
      by_cases h2 : n < sz
      · rw [if_pos h2] at hcE
        have e2 : cP b = false := by unfold cP; rw [hcE]; rfl
        have e3 : cC b = 0 ∧ cT b = 0 ∧ cS b = 0 := by unfold cC cT cS; rw [hcE]; exact ⟨rfl, rfl, rfl⟩
        have HR := hide (And.intro hcE (And.intro e2 e3))
        clear hcE e2 e3
        go_wp2_with fail
        refine bodyPost_ret (v := .tuple #[.agg #[.bool false, .int .i64 0, .int .i64 0, .int .i64 0], .int .i64 4]) (by simp [results, Try.results76, go_sem, u0, u1, u2, u3, hlt]) rfl ?_
        rw [HR.out.1, HR.out.2.1, HR.out.2.2.1, HR.out.2.2.2.1, HR.out.2.2.2.2]
        exact ⟨rfl, ((((((hE0.setCell (p := ⟨w.heap.size, 0, none⟩) (Nat.le_refl _) _).setCell (p := ⟨w.heap.size, 1, none⟩) (Nat.le_refl _) _).setCell (p := ⟨w.heap.size, 2, none⟩) (Nat.le_refl _) _).setCell (p := ⟨w.heap.size, 3, none⟩) (Nat.le_refl _) _).alloc _).drew)⟩
      · rw [if_neg h2] at hcE
        have e2 : cP b = pd := by unfold cP; rw [hcE, HP.out]; rfl
        have e3 : cC b = ct ∧ cT b = b1 b ∧ cS b = sz := by unfold cC cT cS; rw [hcE]; exact ⟨HC.out, rfl, HS.out⟩
        have HR := hide (And.intro hcE (And.intro e2 e3))
        clear hcE e2 e3
        go_wp2_with fail
        refine bodyPost_ret (v := .tuple #[.agg #[.bool pd, .int .i64 ct, .int .i64 (b1 b), .int .i64 sz], .int .i64 0]) (by simp [results, Try.results76, go_sem, u0, u1, u2, u3, hlt]) rfl ?_
        rw [HR.out.1, HR.out.2.1, HR.out.2.2.1, HR.out.2.2.2.1, HR.out.2.2.2.2]
        exact ⟨rfl, ((((((hE0.setCell (p := ⟨w.heap.size, 0, none⟩) (Nat.le_refl _) _).setCell (p := ⟨w.heap.size, 1, none⟩) (Nat.le_refl _) _).setCell (p := ⟨w.heap.size, 2, none⟩) (Nat.le_refl _) _).setCell (p := ⟨w.heap.size, 3, none⟩) (Nat.le_refl _) _).alloc _).drew)⟩

theorem cRight_zero {c t s : Int} (h : cRight c t s = true) : 0 ≤ c ∧ c ≤ 31 ∧ 0 ≤ t ∧ t ≤ 255 ∧ 4 ≤ s ∧ s ≤ 262144 ∧ s % 4 = 0 := by
  unfold cRight at h
  exact of_decide_eq_true h
set_option maxHeartbeats 1000000 in
theorem cwrite_no (p : Bool) (c t s : Int) (w : World) (h : cRight c t s = false) : Calls Try.prog 80 #[.agg #[.bool p, .int .i64 c, .int .i64 t, .int .i64 s]] w fun e w' => e = .returned (.tuple #[.slice none 0 0, .int .i64 1]) ∧ Ext w w' := by
  have S := hide (fun W => cright_any p c t s W)
  rw [h] at S
  clear h
  go_enter Try.func80, Try.ntmps80
  go_wp2_with fail
  refine (S.out _).mono ?_
  rintro e w1 ⟨rfl, hE⟩
  go_wp2_with fail
  go_ret2
  exact ⟨rfl, ((Ext.refl _).alloc _).trans hE⟩
set_option maxHeartbeats 1000000 in
theorem cwrite_yes (p : Bool) (c t s : Int) (w : World) (h : cRight c t s = true) : Calls Try.prog 80 #[.agg #[.bool p, .int .i64 c, .int .i64 t, .int .i64 s]] w fun e w' =>
    ∃ A k, e = .returned (.tuple #[.slice A 4 k, .int .i64 0]) ∧ Bytes w' A 4 k (cBytes p c t s) ∧ Ext w w' := by
  obtain ⟨r1, r2, r3, r4, r5, r6, r7⟩ := cRight_zero h
  have S := hide (fun W => cright_any p c t s W)
  rw [h] at S
  clear h
  obtain ⟨c, rfl⟩ := Int.eq_ofNat_of_zero_le r1
  obtain ⟨t, rfl⟩ := Int.eq_ofNat_of_zero_le r3
  obtain ⟨k, rfl⟩ : ∃ k : Nat, s = 4 * ((k : Int) + 1) := ⟨(s / 4 - 1).toNat, by omega⟩
  have hbx := Blk.new w 62 #[.bool p, .int .i64 c, .int .i64 t, .int .i64 (4 * ((k : Int) + 1))]
  go_enter Try.func80, Try.ntmps80
  go_wp2_with fail
  refine (S.out _).mono ?_
  rintro e w1 ⟨rfl, hE⟩
  have hb1 := hbx.below hE (by simp)
  obtain ⟨⟨u0, u1, u2, u3⟩, _, hlt⟩ := hb1.four
  replace hE := ((Ext.refl w).alloc _).trans hE
  have q1 : bits .or .i64 128 (c : Int) % 256 = 128 + (c : Int) := by
    have h := i64_or_nat 128 c (by omega) (by omega)
    rw [or128 c (by omega)] at h
    have h' : bits .or .i64 128 (c : Int) = ((128 + c : Nat) : Int) := h
    rw [h']
    omega
  have q2 : bits .or .u8 (128 + (c : Int)) 32 = 128 + (c : Int) + 32 := by
    have h := u8_or_nat (128 + c) 32 (by omega) (by omega)
    rw [or32 c (by omega)] at h
    have h' : bits .or .u8 ((128 + c : Nat) : Int) 32 = ((128 + c + 32 : Nat) : Int) := h
    rw [show (128 + (c : Int)) = ((128 + c : Nat) : Int) by omega, h']
    omega
  obtain ⟨x, hx⟩ : ∃ x, be 2 k = x := ⟨_, rfl⟩
  have hxl : x.length = 2 := by rw [← hx]; exact be_length 2 k
  have hpe : putE k 2 = 0 := putE_of (by omega) (by omega) (by simp; omega)
  have P := hide (fun W => put_B k 2 W (by omega) x (by rw [putL_ok hpe]; exact hx) 0 hpe)
  have hcb : cBytes p c t (4 * ((k : Int) + 1)) = cat [[UInt8.ofNat (128 + c + padBit p), UInt8.ofNat t], x] := by
    unfold cBytes
    rw [show (4 * ((k : Int) + 1) / 4 - 1).toNat = k by omega, hx]
    simp [cat]
  obtain ⟨y, hy⟩ : ∃ y, cBytes p c t (4 * ((k : Int) + 1)) = y := ⟨_, rfl⟩
  rw [hy] at hcb
  have hyl : y.length = 4 := by rw [hcb]; simp [cat, hxl]
  have HCB := hide hcb
  have HY := hide hy
  have HYL := hide hyl
  have HXL := hide hxl
  clear hcb hy hyl hxl hx hpe
  cases p
  · have hv : ([UInt8.ofNat (128 + c + padBit false), UInt8.ofNat t].map Bv) = [.int .u8 (128 + (c : Int)), .int .u8 (t : Int)] := by simp [Bv, padBit]; omega
    have HV := hide hv
    clear hv
    go_wp2_with fail
    refine (P.out _).mono ?_
    rw [HXL.out]
    rintro e w2 ⟨A2, c2, rfl, hB2, hE2⟩
    replace hE := hE.trans hE2
    obtain ⟨⟨u0, u1, u2, u3⟩, _, hlt2⟩ := (hb1.below hE2 hlt).four
    go_wp2_with fail
    have hl := Bytes.lit (w := w2) _ 5 2 HV.out rfl (by omega)
    have hS := Slices.lit (ls := [[UInt8.ofNat (128 + c + padBit false), UInt8.ofNat t], x]) (vs := [.slice (some ⟨w2.heap.size, 0, none⟩) 2 2, .slice A2 2 c2]) 25 2 rfl (by omega) ⟨hl, hB2.alloc _, trivial⟩
    rw [World.size_alloc] at hS
    refine (join_B _ _ _ _ _ hS (by rw [← HCB.out, HYL.out]; omega) y HCB.out.symm).mono ?_
    rw [HYL.out]
    rintro e w3 ⟨A3, c3, rfl, hB3, hE3⟩
    go_wp2_with fail
    go_ret2
    exact ⟨A3, c3, rfl, by rw [HY.out]; exact hB3, ((hE.alloc _).alloc _).trans hE3⟩
  · have hv : ([UInt8.ofNat (128 + c + padBit true), UInt8.ofNat t].map Bv) = [.int .u8 (128 + (c : Int) + 32), .int .u8 (t : Int)] := by simp [Bv, padBit]; omega
    have HV := hide hv
    clear hv
    go_wp2_with fail
    refine (P.out _).mono ?_
    rw [HXL.out]
    rintro e w2 ⟨A2, c2, rfl, hB2, hE2⟩
    replace hE := hE.trans hE2
    obtain ⟨⟨u0, u1, u2, u3⟩, _, hlt2⟩ := (hb1.below hE2 hlt).four
    go_wp2_with fail
    have hl := Bytes.lit (w := w2) _ 5 2 HV.out rfl (by omega)
    have hS := Slices.lit (ls := [[UInt8.ofNat (128 + c + padBit true), UInt8.ofNat t], x]) (vs := [.slice (some ⟨w2.heap.size, 0, none⟩) 2 2, .slice A2 2 c2]) 25 2 rfl (by omega) ⟨hl, hB2.alloc _, trivial⟩
    rw [World.size_alloc] at hS
    refine (join_B _ _ _ _ _ hS (by rw [← HCB.out, HYL.out]; omega) y HCB.out.symm).mono ?_
    rw [HYL.out]
    rintro e w3 ⟨A3, c3, rfl, hB3, hE3⟩
    go_wp2_with fail
    go_ret2
    exact ⟨A3, c3, rfl, by rw [HY.out]; exact hB3, ((hE.alloc _).alloc _).trans hE3⟩

/-! The document's answer. -/
set_option maxHeartbeats 1000000 in
theorem rright_any (p : Bool) (c t s : Int) (w : World) : Calls Try.prog 83 #[.agg #[.bool p, .int .i64 c, .int .i64 t, .int .i64 s]] w fun e w' => e = .returned (.bool (cRight c t s)) ∧ Ext w w' := by
  go_enter Try.func83, Try.ntmps83
  go_wp2
  all_goals go_ret
  all_goals exact ⟨ret_bool (by simp [cRight]; try omega), (Ext.refl _).alloc _⟩
set_option maxHeartbeats 1000000 in
theorem rwrite_yes (p : Bool) (c t s : Int) (w : World) (h : cRight c t s = true) : Calls Try.prog 84 #[.agg #[.bool p, .int .i64 c, .int .i64 t, .int .i64 s]] w fun e w' =>
    ∃ A k, e = .returned (.slice A 4 k) ∧ Bytes w' A 4 k (cBytes p c t s) ∧ Ext w w' := by
  obtain ⟨r1, r2, r3, r4, r5, r6, r7⟩ := cRight_zero h
  clear h
  obtain ⟨c, rfl⟩ := Int.eq_ofNat_of_zero_le r1
  obtain ⟨t, rfl⟩ := Int.eq_ofNat_of_zero_le r3
  obtain ⟨k, rfl⟩ : ∃ k : Nat, s = 4 * ((k : Int) + 1) := ⟨(s / 4 - 1).toNat, by omega⟩
  have hcb : ∀ p, cBytes p c t (4 * ((k : Int) + 1)) = [UInt8.ofNat (128 + c + padBit p), UInt8.ofNat t, UInt8.ofNat (k / 256), UInt8.ofNat k] := by
    intro p
    unfold cBytes
    rw [show (4 * ((k : Int) + 1) / 4 - 1).toNat = k by omega]
    simp [be]
  have HCB := hide hcb
  clear hcb
  cases p
  · go_enter Try.func84, Try.ntmps84
    go_wp2
    go_ret
    rw [HCB.out]
    refine ⟨_, _, rfl, ?_, ((Ext.refl _).alloc _).alloc _⟩
    have hl := Bytes.lit (w := w.alloc (.cells #[.bool false, .int .i64 (c : Int), .int .i64 (t : Int), .int .i64 (4 * ((k : Int) + 1))] 62)) (vs := [.int .u8 (128 + (c : Int)), .int .u8 (t : Int), .int .u8 ((k : Int) / 256), .int .u8 ((k : Int) % 256)]) [UInt8.ofNat (128 + c + padBit false), UInt8.ofNat t, UInt8.ofNat (k / 256), UInt8.ofNat k] 5 4 (by simp [Bv, padBit]; omega) rfl (by omega)
    rw [World.size_alloc] at hl
    exact hl
  · go_enter Try.func84, Try.ntmps84
    go_wp2
    go_ret
    rw [HCB.out]
    refine ⟨_, _, rfl, ?_, ((Ext.refl _).alloc _).alloc _⟩
    have hl := Bytes.lit (w := w.alloc (.cells #[.bool true, .int .i64 (c : Int), .int .i64 (t : Int), .int .i64 (4 * ((k : Int) + 1))] 62)) (vs := [.int .u8 (128 + (c : Int) + 32), .int .u8 (t : Int), .int .u8 ((k : Int) / 256), .int .u8 ((k : Int) % 256)]) [UInt8.ofNat (128 + c + padBit true), UInt8.ofNat t, UInt8.ofNat (k / 256), UInt8.ofNat k] 5 4 (by simp [Bv, padBit]; omega) rfl (by omega)
    rw [World.size_alloc] at hl
    exact hl
end Go.Proofs.Ythepndimhiieiaa

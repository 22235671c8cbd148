/- The document's answer for layer 17: Read and Canon, whatever the bytes are; Value, whatever the rate is. -/
import Derived.Test.YthepndimhiieiaaRembRr
import Derived.Deep.DeepCutAuto
namespace Go.Proofs.Ythepndimhiieiaa
open Go.RowKit
theorem rread17_any (A : Option Addr) (n c : Nat) (b : List UInt8) (w : World) (hb : Bytes w A n c b) : Calls Try.prog 48 #[.slice A n c] w fun e w' =>
    ∃ A' c', e = .returned (.tuple #[.agg #[.int .i64 (rbX b : Int), .int .u32 ((rbM b) : Int), .slice A' (rbL b).length c'], .int .i64 (rbE b)]) ∧ Els e32 w' A' (rbL b).length c' (rbL b) ∧ Ext w w' := by
  have hlen := hb.len
  have hz : ∀ E : Int, rbE b = E → E ≠ 0 → ∀ e w', (e = Ending.returned (.tuple #[.agg #[.int .i64 0, .int .u32 0, .slice none 0 0], .int .i64 E]) ∧ Ext w w') → ∃ A' c', e = .returned (.tuple #[.agg #[.int .i64 (rbX b : Int), .int .u32 ((rbM b) : Int), .slice A' (rbL b).length c'], .int .i64 (rbE b)]) ∧ Els e32 w' A' (rbL b).length c' (rbL b) ∧ Ext w w' := by
    rintro E hE0 hne e w' ⟨rfl, hX⟩
    have q1 : rbX b = 0 := by unfold rbX; rw [if_neg (by rw [hE0]; exact hne)]
    have q2 : rbM b = 0 := by unfold rbM; rw [if_neg (by rw [hE0]; exact hne)]
    have q3 : rbL b = [] := by unfold rbL; rw [if_neg (by rw [hE0]; exact hne)]
    rw [q1, q2, q3, hE0]
    exact ⟨none, 0, rfl, Els.nil _, hX⟩
  by_cases h1 : 65520 < n ∨ n % 4 ≠ 0
  · exact (rread17_len A n c w h1).mono fun e w' h => hz 4 (by unfold rbE; rw [if_pos (by omega)]) (by decide) e w' h
  by_cases h2 : n < 8
  · exact (rread17_short A n c w h2 (by omega)).mono fun e w' h => hz 2 (by unfold rbE; rw [if_neg (by omega), if_pos (by omega)]) (by decide) e w' h
  obtain ⟨g, o, rfl, hg⟩ := hb.form (by omega)
  by_cases h3 : b.take 4 = [82, 69, 77, 66]
  case neg => exact (rread17_magic g o n c b w hb (by omega) (by omega) (by omega) h3).mono fun e w' h => hz 6 (by unfold rbE; rw [if_neg (by omega), if_neg (by omega), if_pos h3]) (by decide) e w' h
  have h3' : ¬ (b.take 4 ≠ [82, 69, 77, 66]) := fun h => h h3
  by_cases h4 : n / 4 - 2 < (b.getD 4 0).toNat
  · exact (rread17_many g o n c b w hb (by omega) (by omega) (by omega) h3 2 (.inl ⟨h4, rfl⟩)).mono fun e w' h => hz 2 (by unfold rbE; rw [if_neg (by omega), if_neg (by omega), if_neg h3', if_pos (by omega)]) (by decide) e w' h
  by_cases h5 : (b.getD 4 0).toNat < n / 4 - 2
  · exact (rread17_many g o n c b w hb (by omega) (by omega) (by omega) h3 4 (.inr ⟨h5, rfl⟩)).mono fun e w' h => hz 4 (by unfold rbE; rw [if_neg (by omega), if_neg (by omega), if_neg h3', if_neg (by omega), if_pos (by omega)]) (by decide) e w' h
  have e0 : rbE b = 0 := by unfold rbE; rw [if_neg (by omega), if_neg (by omega), if_neg h3', if_neg (by omega), if_neg (by omega)]
  have e1 : rbL b = cs (b.getD 4 0).toNat (b.drop 8) := by unfold rbL; rw [if_pos e0]
  have e2 : (rbL b).length = (b.getD 4 0).toNat := by rw [e1, cs_len]
  rw [e0, e2, e1]
  exact rread17_ok _ g o n c b w hb (by omega) (by omega) h3 rfl _ _ (by unfold rbX; rw [if_pos e0]) (by unfold rbM; rw [if_pos e0])
theorem rread17_B (A : Option Addr) (n c : Nat) (b : List UInt8) (w : World) (hb : Bytes w A n c b) (X M : Nat) (L : List UInt32) (E : Int) (N : Nat) (e1 : rbX b = X) (e2 : rbM b = M) (e3 : rbL b = L) (e4 : rbE b = E) (e5 : L.length = N) : Calls Try.prog 48 #[.slice A n c] w fun e w' =>
    ∃ A' c', e = .returned (.tuple #[.agg #[.int .i64 (X : Int), .int .u32 (M : Int), .slice A' N c'], .int .i64 E]) ∧ Els e32 w' A' N c' L ∧ Ext w w' := by
  subst e1 e2 e3 e4 e5
  exact rread17_any A n c b w hb
def rbValI (x : Int) (m n : Nat) : Nat := if rbRight x m n = true then rbVal x.toNat m n else 0
theorem value17_B (x : Int) (m : Nat) (A : Option Addr) (n c : Nat) (w : World) (v : Nat) (hv : rbValI x m n = v) : Calls Try.prog 55 #[.agg #[.int .i64 x, .int .u32 (m : Int), .slice A n c]] w fun e w' => e = .returned (.int .u64 (v : Int)) ∧ Ext w w' := by
  subst hv
  unfold rbValI
  by_cases hr : rbRight x m n = true
  · have h := of_decide_eq_true hr
    obtain ⟨k, rfl⟩ := Int.eq_ofNat_of_zero_le h.1
    rw [if_pos hr]
    exact value17 k m (by omega) (by omega) A n c _ rfl w
  · rw [if_neg hr]
    exact value17_no x m A n c w (by simpa using hr)
theorem rvalue17_B (x : Int) (m : Nat) (A : Option Addr) (n c : Nat) (w : World) (v : Nat) (hv : rbValI x m n = v) : Calls Try.prog 56 #[.agg #[.int .i64 x, .int .u32 (m : Int), .slice A n c]] w fun e w' => e = .returned (.int .u64 (v : Int)) ∧ Ext w w' := by
  subst hv
  unfold rbValI
  by_cases hr : rbRight x m n = true
  · have h := of_decide_eq_true hr
    obtain ⟨k, rfl⟩ := Int.eq_ofNat_of_zero_le h.1
    rw [if_pos hr]
    exact rvalue17_ok k m A n c w hr _ rfl
  · rw [if_neg hr]
    exact rvalue17_no x m A n c w (by simpa using hr)
set_option maxRecDepth 100000 in
set_option maxHeartbeats 2000000 in
theorem rcanon17_any (A : Option Addr) (n c : Nat) (b : List UInt8) (w : World) (hb : Bytes w A n c b) (s : Bool) (hs : rbC b = s) : Calls Try.prog 52 #[.slice A n c] w fun e w' => e = .returned (.bool s) ∧ Ext w w' := by
  have hbl := hb.len
  by_cases hE0 : rbE b = 0
  · obtain ⟨z1, z2, z3⟩ := rb_read b hE0
    obtain ⟨X, hXe⟩ : ∃ X, rbX b = X := ⟨_, rfl⟩
    obtain ⟨M, hMe⟩ : ∃ X, rbM b = X := ⟨_, rfl⟩
    obtain ⟨L, hLe⟩ : ∃ X, rbL b = X := ⟨_, rfl⟩
    obtain ⟨N, hNe⟩ : ∃ X, L.length = X := ⟨_, rfl⟩
    rw [hXe, hMe, hLe] at z1 z2 z3
    rw [hNe] at z1
    obtain ⟨yb, hyb⟩ : ∃ Z, rbBytes X M L = Z := ⟨_, rfl⟩
    rw [hyb] at z2 z3
    have S5 := hide (fun W hb => rread17_B A n c b W hb X M L 0 N hXe hMe hLe hE0 hNe)
    have S9 := hide (fun W A c hY => rwrite17_B X M L A c N W hY z1 yb hyb)
    have hyy : (yb == b) = s := by
      rw [← hs, z3]
      by_cases q : yb = b
      · rw [beq_iff_eq.2 q, decide_eq_true q]
      · rw [beq_eq_false_iff_ne.2 q, decide_eq_false q]
    clear z1 z2 z3 hXe hMe hLe hNe hyb hs hE0 hbl
    go_enter Try.func52, Try.ntmps52
    go_wp2_with fail
    refine (S5.out _ hb).mono ?_
    rintro e wa ⟨Aq, cq, rfl, hY, hE⟩
    have hby := Blk.new wa 84 #[.int .i64 (X : Int), .int .u32 (M : Int), .slice Aq N cq]
    have hE3 := hE.alloc (.cells #[.int .i64 (X : Int), .int .u32 (M : Int), .slice Aq N cq] 84)
    replace hY := hY.alloc (.cells #[.int .i64 (X : Int), .int .u32 (M : Int), .slice Aq N cq] 84)
    replace hb := hb.ext hE3
    clear S5 hE
    go_upto_region 2 with fail
    obtain ⟨g3, hg3⟩ : ∃ g, wa.heap.size = g := ⟨_, rfl⟩
    rw [hg3] at hby ⊢
    generalize hgw : wa.alloc (.cells #[.int .i64 (X : Int), .int .u32 (M : Int), .slice Aq N cq] 84) = wb at *
    clear hgw hg3
    refine regE_start (by kernel_rfl) ?_
    have hR := (Ext.refl wb).drew
    generalize hgw : (wb).drew = wr0 at *
    clear hgw
    refine regE_take (i := 0) (v := ?_) rfl (by kernel_rfl) (by kernel_rfl) (by kernel_rfl) (fun _ _ _ h => h) (by rfl) ?_ ?_
    rotate_left
    · intro W hW; go_simp; try with_reducible rfl
    simp only [Act.put, List.setIfInBounds_toArray, List.set_cons_zero, List.set_cons_succ]
    refine regE_take (i := 1) (v := ?_) rfl (by kernel_rfl) (by kernel_rfl) (by kernel_rfl) (fun _ _ _ h => h) (by rfl) ?_ ?_
    rotate_left
    · intro W hW; go_simp; try with_reducible rfl
    simp only [Act.put, List.setIfInBounds_toArray, List.set_cons_zero, List.set_cons_succ]
    refine regE_take (i := 2) (v := ?_) rfl (by kernel_rfl) (by kernel_rfl) (by kernel_rfl) (fun _ _ _ h => h) (by rfl) ?_ ?_
    rotate_left
    · intro W hW; go_simp; try with_reducible rfl
    simp only [Act.put, List.setIfInBounds_toArray, List.set_cons_zero, List.set_cons_succ]
    refine regE_take (i := 3) (v := ?_) rfl (by kernel_rfl) (by kernel_rfl) (by kernel_rfl) (fun _ _ _ h => h) (by rfl) ?_ ?_
    rotate_left
    · intro W hW; obtain ⟨⟨u0, u1, u2⟩, _, _⟩ := (hby.below hW hby.lt).three; go_simp; try with_reducible rfl
    simp only [Act.put, List.setIfInBounds_toArray, List.set_cons_zero, List.set_cons_succ]
    refine regE_take (i := 6) (v := ?_) rfl (by kernel_rfl) (by kernel_rfl) (by kernel_rfl) (fun _ _ _ h => h) (by rfl) ?_ ?_
    rotate_left
    · intro W hW; go_simp; try with_reducible rfl
    simp only [Act.put, List.setIfInBounds_toArray, List.set_cons_zero, List.set_cons_succ]
    refine regE_take (i := 7) (v := ?_) rfl (by kernel_rfl) (by kernel_rfl) (by kernel_rfl) (fun _ _ _ h => h) (by rfl) ?_ ?_
    rotate_left
    · intro W hW; have s1 := run_str (hb.ext hW); go_simp; try with_reducible rfl
    simp only [Act.put, List.setIfInBounds_toArray, List.set_cons_zero, List.set_cons_succ]
    refine regE_do (i := 4) rfl (by kernel_rfl) (fun K hK => ?_)
    rw [if_pos (by rfl)]
    go_simp
    refine (S9.out _ _ _ (hY.ext hR)).mono ?_
    rintro e wr1 ⟨Aw, cw, rfl, hW2, hXX⟩
    refine hK.out _ _ (hR.trans hXX) ?_
    clear hK K
    refine regE_raise ?_
    replace hR := hR.trans hXX
    try simp only [Act.put, List.setIfInBounds_toArray, List.set_cons_zero, List.set_cons_succ]
    refine regE_take (i := 5) (v := ?_) rfl (by kernel_rfl) (by kernel_rfl) (by kernel_rfl) (fun _ _ _ h => h) (by rfl) ?_ ?_
    rotate_left
    · intro W hW; have s1 := run_str (hW2.ext hW); go_simp; try with_reducible rfl
    simp only [Act.put, List.setIfInBounds_toArray, List.set_cons_zero, List.set_cons_succ]
    refine regE_take (i := 8) (v := ?_) rfl (by kernel_rfl) (by kernel_rfl) (by kernel_rfl) (fun _ _ _ h => h) (by rfl) ?_ ?_
    rotate_left
    · intro W hW; go_simp; try with_reducible rfl
    simp only [Act.put, List.setIfInBounds_toArray, List.set_cons_zero, List.set_cons_succ]
    refine regE_take (i := 9) (v := ?_) rfl (by kernel_rfl) (by kernel_rfl) (by kernel_rfl) (fun _ _ _ h => h) (by rfl) ?_ ?_
    rotate_left
    · intro W hW; go_simp; try with_reducible rfl
    simp only [Act.put, List.setIfInBounds_toArray, List.set_cons_zero, List.set_cons_succ]
    refine regE_take (i := 10) (v := ?_) rfl (by kernel_rfl) (by kernel_rfl) (by kernel_rfl) (fun _ _ _ h => h) (by rfl) ?_ ?_
    rotate_left
    · intro W hW; go_simp; try with_reducible rfl
    simp only [Act.put, List.setIfInBounds_toArray, List.set_cons_zero, List.set_cons_succ]
    refine regE_done (by kernel_rfl) ?_
    go_wp2_with fail
    go_ret
    exact ⟨rfl, hE3.trans hR⟩
  · have q1 : rbX b = 0 := by unfold rbX; rw [if_neg hE0]
    have q2 : rbM b = 0 := by unfold rbM; rw [if_neg hE0]
    have q3 : rbL b = [] := by unfold rbL; rw [if_neg hE0]
    obtain rfl : false = s := by rw [← hs]; symm; exact decide_eq_false fun z => hE0 z.1
    obtain ⟨E, hEe⟩ : ∃ E, rbE b = E := ⟨_, rfl⟩
    have S5 := hide (fun W hb => rread17_B A n c b W hb 0 0 [] E 0 q1 q2 q3 hEe rfl)
    rw [hEe] at hE0
    have hne : (E == 0) = false := beq_eq_false_iff_ne.2 hE0
    clear q1 q2 q3 hEe hE0 hbl hs
    go_enter Try.func52, Try.ntmps52
    go_wp2_with fail
    refine (S5.out _ hb).mono ?_
    rintro e wa ⟨Az, cz, rfl, hZ, hE⟩
    have hE3 := hE.alloc (.cells #[.int .i64 0, .int .u32 (0 : Int), .slice Az 0 cz] 84)
    clear S5 hE
    go_wp2_with fail
    go_quiet (fail)
    go_wp2_with fail
    go_ret
    exact ⟨rfl, hE3.drewN _⟩
end Go.Proofs.Ythepndimhiieiaa

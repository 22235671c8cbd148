/- The document's Read of a header. -/
import Derived.Test.YtiamcdbnhmlhaaaHeadR
import Derived.Test.YtiamcdbnhmlhaaaHeadRd
namespace Go.Proofs.Ytiamcdbnhmlhaaa
open Go.RowKit
set_option maxRecDepth 100000 in
set_option maxHeartbeats 1000000 in
theorem rhread_short (A : Option Addr) (n c : Nat) (w : World) (h : n < 12) : Calls Try.prog 32 #[.slice A n c] w fun e w' => e = .returned (.tuple #[.agg #[.bool false, .bool false, .bool false, .int .i64 0, .int .u16 0, .int .u32 0, .int .u32 0, .slice none 0 0], .int .i64 0, .int .i64 2]) ∧ Ext w w' := by
  go_enter Try.func32, Try.ntmps32
  go_wp2_with fail
  exact bodyPost_ret (v := .tuple #[.agg #[.bool false, .bool false, .bool false, .int .i64 0, .int .u16 0, .int .u32 0, .int .u32 0, .slice none 0 0], .int .i64 0, .int .i64 2]) (by simp [results, Try.results32, go_sem]) rfl ⟨rfl, ((Ext.refl _).alloc _)⟩
set_option maxRecDepth 100000 in
set_option maxHeartbeats 1000000 in
theorem rhread_version (g o n c : Nat) (b : List UInt8) (w : World) (hb : Bytes w (some ⟨g, o, none⟩) n c b) (h : 12 ≤ n) (hv : (b.getD 0 0).toNat / 64 ≠ 2) : Calls Try.prog 32 #[.slice (some ⟨g, o, none⟩) n c] w fun e w' => e = .returned (.tuple #[.agg #[.bool false, .bool false, .bool false, .int .i64 0, .int .u16 0, .int .u32 0, .int .u32 0, .slice none 0 0], .int .i64 0, .int .i64 3]) ∧ Ext w w' := by
  have q0 := (b.getD 0 0).toNat_lt
  have hc0 := (hb.alloc (.cells #[.bool false, .bool false, .bool false, .int .i64 0, .int .u16 0, .int .u32 0, .int .u32 0, .slice none 0 0] 54)).cellZero (by omega)
  obtain ⟨b0, h0⟩ : ∃ v, (b.getD 0 0).toNat = v := ⟨_, rfl⟩
  rw [h0] at hc0 hv q0
  have hne : ((b0 : Int) / 64 != 2) = true := by rw [bne_iff_ne]; omega
  have n0 : 0 < n := by omega
  clear h0
  go_enter Try.func32, Try.ntmps32
  go_wp2_with fail
  exact bodyPost_ret (v := .tuple #[.agg #[.bool false, .bool false, .bool false, .int .i64 0, .int .u16 0, .int .u32 0, .int .u32 0, .slice none 0 0], .int .i64 0, .int .i64 3]) (by simp [results, Try.results32, go_sem]) rfl ⟨rfl, ((Ext.refl _).alloc _)⟩
set_option maxRecDepth 100000 in
set_option maxHeartbeats 1000000 in
theorem rhread_short2 (g o n c : Nat) (b : List UInt8) (w : World) (hb : Bytes w (some ⟨g, o, none⟩) n c b) (h : 12 ≤ n) (hv : (b.getD 0 0).toNat / 64 = 2) (hl : n < 12 + 4 * ((b.getD 0 0).toNat % 16)) : Calls Try.prog 32 #[.slice (some ⟨g, o, none⟩) n c] w fun e w' => e = .returned (.tuple #[.agg #[.bool false, .bool false, .bool false, .int .i64 0, .int .u16 0, .int .u32 0, .int .u32 0, .slice none 0 0], .int .i64 0, .int .i64 2]) ∧ Ext w w' := by
  have q0 := (b.getD 0 0).toNat_lt
  have hc0 := (hb.alloc (.cells #[.bool false, .bool false, .bool false, .int .i64 0, .int .u16 0, .int .u32 0, .int .u32 0, .slice none 0 0] 54)).cellZero (by omega)
  obtain ⟨b0, h0⟩ : ∃ v, (b.getD 0 0).toNat = v := ⟨_, rfl⟩
  rw [h0] at hc0 hv q0 hl
  have hne : ((b0 : Int) / 64 != 2) = false := by rw [bne_eq_false_iff_eq]; omega
  have n0 : 0 < n := by omega
  obtain ⟨m, hm⟩ : ∃ m, b0 % 16 = m := ⟨_, rfl⟩
  have k15 : (b0 : Int) % 16 = (m : Int) := by omega
  have hm15 : m ≤ 15 := by omega
  have hlt : (n : Int) < 12 + 4 * (m : Int) := by omega
  clear h0 hm hv
  go_enter Try.func32, Try.ntmps32
  go_wp2_with fail
  exact bodyPost_ret (v := .tuple #[.agg #[.bool false, .bool false, .bool false, .int .i64 0, .int .u16 0, .int .u32 0, .int .u32 0, .slice none 0 0], .int .i64 0, .int .i64 2]) (by simp [results, Try.results32, go_sem]) rfl ⟨rfl, ((Ext.refl _).alloc _)⟩
set_option maxRecDepth 100000 in
set_option maxHeartbeats 2000000 in
theorem rhread_ok (g o n c : Nat) (b : List UInt8) (w : World) (hb : Bytes w (some ⟨g, o, none⟩) n c b) (h : 12 ≤ n) (hv : (b.getD 0 0).toNat / 64 = 2) (hl : 12 + 4 * ((b.getD 0 0).toNat % 16) ≤ n) : Calls Try.prog 32 #[.slice (some ⟨g, o, none⟩) n c] w fun e w' =>
    ∃ A' c', e = .returned (.tuple #[.agg #[.bool (hRaw b).pad, .bool (hRaw b).ext, .bool (hRaw b).mark, .int .i64 (hRaw b).typ, .int .u16 ((hRaw b).seq.toNat : Int), .int .u32 ((hRaw b).time.toNat : Int), .int .u32 ((hRaw b).ssrc.toNat : Int), .slice A' ((b.getD 0 0).toNat % 16 : Nat) c'], .int .i64 ((12 + 4 * ((b.getD 0 0).toNat % 16) : Nat) : Int), .int .i64 0]) ∧ Els e32 w' A' ((b.getD 0 0).toNat % 16) c' (hRaw b).csrc ∧ Ext w w' := by
  obtain ⟨T⟩ := ty32
  have hlen := hb.len
  have hnc := hb.le
  have hcm := hb.reach
  have q0 := (b.getD 0 0).toNat_lt
  have q1 := (b.getD 1 0).toNat_lt
  have F := hide (fun (W : World) (hW : Ext w W) => And.intro ((hb.ext hW).cellZero (by omega)) ((hb.ext hW).cellAt 1 (by omega)))
  have hraw : hRaw b = ⟨decide ((b.getD 0 0).toNat / 32 % 2 = 1), decide ((b.getD 0 0).toNat / 16 % 2 = 1), decide (128 ≤ (b.getD 1 0).toNat), (((b.getD 1 0).toNat % 128 : Nat) : Int), UInt16.ofNat (val ((b.drop 2).take 2)), UInt32.ofNat (val ((b.drop 4).take 4)), UInt32.ofNat (val ((b.drop 8).take 4)), cs ((b.getD 0 0).toNat % 16) (b.drop 12)⟩ := rfl
  rw [hraw]
  dsimp only
  clear hraw
  have e16 := u16_of (val ((b.drop 2).take 2))
  obtain ⟨n2, hn2⟩ : ∃ v, (UInt32.ofNat (val ((b.drop 2).take 2))).toNat = v := ⟨_, rfl⟩
  obtain ⟨n4, hn4⟩ : ∃ v, (UInt32.ofNat (val ((b.drop 4).take 4))).toNat = v := ⟨_, rfl⟩
  obtain ⟨n8, hn8⟩ : ∃ v, (UInt32.ofNat (val ((b.drop 8).take 4))).toNat = v := ⟨_, rfl⟩
  obtain ⟨s2, hs2⟩ : ∃ v, (UInt16.ofNat (val ((b.drop 2).take 2))).toNat = v := ⟨_, rfl⟩
  rw [hs2, hn2] at e16
  rw [hs2, hn4, hn8]
  have S2 := hide (fun W hW => rnum_ok _ n c b 2 2 W (hb.ext hW) (by omega) (by omega) (by omega) n2 hn2)
  have S4 := hide (fun W hW => rnum_ok _ n c b 4 4 W (hb.ext hW) (by omega) (by omega) (by omega) n4 hn4)
  have S8 := hide (fun W hW => rnum_ok _ n c b 8 4 W (hb.ext hW) (by omega) (by omega) (by omega) n8 hn8)
  have e16b : (n2 : Int) % 65536 = (s2 : Int) := by rw [IntKind.wrap_u16] at e16; omega
  have E16 := hide (And.intro e16 e16b)
  clear hn2 hn4 hn8 hs2 e16 e16b
  obtain ⟨b0, h0⟩ : ∃ v, (b.getD 0 0).toNat = v := ⟨_, rfl⟩
  obtain ⟨b1, h1⟩ : ∃ v, (b.getD 1 0).toNat = v := ⟨_, rfl⟩
  rw [h0] at q0 hv hl F ⊢
  rw [h1] at q1 F ⊢
  clear h0 h1
  have hne : ((b0 : Int) / 64 != 2) = false := by rw [bne_eq_false_iff_eq]; omega
  have n0 : 0 < n := by omega
  have n1 : (1 : Int) < (n : Int) := by omega
  obtain ⟨m, hm⟩ : ∃ m, b0 % 16 = m := ⟨_, rfl⟩
  have k15 : (b0 : Int) % 16 = (m : Int) := by omega
  rw [hm] at hl ⊢
  have hm15 : m ≤ 15 := by omega
  have hlt : ¬ ((n : Int) < 12 + 4 * (m : Int)) := by omega
  have k1 : ((b0 : Int) / 32 % 2 == 1) = decide (b0 / 32 % 2 = 1) := by rw [Bool.eq_iff_iff, beq_iff_eq, decide_eq_true_iff]; omega
  have k2 : ((b0 : Int) / 16 % 2 == 1) = decide (b0 / 16 % 2 = 1) := by rw [Bool.eq_iff_iff, beq_iff_eq, decide_eq_true_iff]; omega
  have k3 : decide ((128 : Int) ≤ (b1 : Int)) = decide (128 ≤ b1) := by rw [decide_eq_decide]; omega
  have k4 : IntKind.i64.wrap ((b1 : Int).tmod 128) = ((b1 % 128 : Nat) : Int) := by
    rw [Int.tmod_eq_emod_of_nonneg (by omega), IntWalk.i64_in _ (by omega)]; omega
  have K1 := hide k1
  have K2 := hide k2
  have K3 := hide k3
  have K4 := hide k4
  clear k1 k2 k3 k4 hm hv
  have hc0 := (F.out (w.alloc (.cells #[.bool false, .bool false, .bool false, .int .i64 0, .int .u16 0, .int .u32 0, .int .u32 0, .slice none 0 0] 54)) ((Ext.refl w).alloc _)).1
  have hz := Blk.new w 54 #[.bool false, .bool false, .bool false, .int .i64 0, .int .u16 0, .int .u32 0, .int .u32 0, .slice none 0 0]
  have hR0 := (Ext.refl w).alloc (.cells #[.bool false, .bool false, .bool false, .int .i64 0, .int .u16 0, .int .u32 0, .int .u32 0, .slice none 0 0] 54)
  go_enter Try.func32, Try.ntmps32
  go_wp2_with fail
  generalize hgw : w.alloc (.cells #[.bool false, .bool false, .bool false, .int .i64 0, .int .u16 0, .int .u32 0, .int .u32 0, .slice none 0 0] 54) = w1 at *
  clear hgw hc0
  have f0 := fun W hW => (F.out W hW).1
  have f1 := fun W hW => (F.out W hW).2
  refine regE_start_at (hR0) (by kernel_rfl) ?_
  have hR := (hR0).drew
  replace hz := hz.drew
  generalize hgw : (w1).drew = wr0 at *
  clear hgw
  refine regE_take (i := 0) (v := ?_) rfl (by kernel_rfl) (by kernel_rfl) (by kernel_rfl) (fun _ _ _ h => h) (by rfl) ?_ ?_
  rotate_left
  · intro W hW; go_simp; try with_reducible rfl
  simp only [Act.put, List.setIfInBounds_toArray, List.set_cons_zero, List.set_cons_succ]
  refine regE_take (i := 1) (v := ?_) rfl (by kernel_rfl) (by kernel_rfl) (by kernel_rfl) (fun _ _ _ h => h) (by rfl) ?_ ?_
  rotate_left
  · intro W hW; go_simp; try with_reducible rfl
  simp only [Act.put, List.setIfInBounds_toArray, List.set_cons_zero, List.set_cons_succ]
  refine regE_take (i := 2) (v := ?_) rfl (by kernel_rfl) (by kernel_rfl) (by kernel_rfl) (fun _ _ _ h => h) (by rfl) ?_ ?_
  rotate_left
  · intro W hW; go_simp; try with_reducible rfl
  simp only [Act.put, List.setIfInBounds_toArray, List.set_cons_zero, List.set_cons_succ]
  refine regE_take (i := 3) (v := ?_) rfl (by kernel_rfl) (by kernel_rfl) (by kernel_rfl) (fun _ _ _ h => h) (by rfl) ?_ ?_
  rotate_left
  · intro W hW; go_simp; try with_reducible rfl
  simp only [Act.put, List.setIfInBounds_toArray, List.set_cons_zero, List.set_cons_succ]
  refine regE_take (i := 4) (v := ?_) rfl (by kernel_rfl) (by kernel_rfl) (by kernel_rfl) (fun _ _ _ h => h) (by rfl) ?_ ?_
  rotate_left
  · intro W hW; go_simp; try with_reducible rfl
  simp only [Act.put, List.setIfInBounds_toArray, List.set_cons_zero, List.set_cons_succ]
  refine regE_take (i := 5) (v := ?_) rfl (by kernel_rfl) (by kernel_rfl) (by kernel_rfl) (fun _ _ _ h => h) (by rfl) ?_ ?_
  rotate_left
  · intro W hW; go_simp; try with_reducible rfl
  simp only [Act.put, List.setIfInBounds_toArray, List.set_cons_zero, List.set_cons_succ]
  refine regE_take (i := 6) (v := ?_) rfl (by kernel_rfl) (by kernel_rfl) (by kernel_rfl) (fun _ _ _ h => h) (by rfl) ?_ ?_
  rotate_left
  · intro W hW; go_simp; try with_reducible rfl
  simp only [Act.put, List.setIfInBounds_toArray, List.set_cons_zero, List.set_cons_succ]
  refine regE_take (i := 7) (v := ?_) rfl (by kernel_rfl) (by kernel_rfl) (by kernel_rfl) (fun _ _ _ h => h) (by rfl) ?_ ?_
  rotate_left
  · intro W hW; go_simp; try with_reducible rfl
  simp only [Act.put, List.setIfInBounds_toArray, List.set_cons_zero, List.set_cons_succ]
  refine regE_take (i := 8) (v := ?_) rfl (by kernel_rfl) (by kernel_rfl) (by kernel_rfl) (fun _ _ _ h => h) (by rfl) ?_ ?_
  rotate_left
  · intro W hW; go_simp; try with_reducible rfl
  simp only [Act.put, List.setIfInBounds_toArray, List.set_cons_zero, List.set_cons_succ]
  refine regE_take (i := 9) (v := ?_) rfl (by kernel_rfl) (by kernel_rfl) (by kernel_rfl) (fun _ _ _ h => h) (by rfl) ?_ ?_
  rotate_left
  · intro W hW; go_simp; try with_reducible rfl
  simp only [Act.put, List.setIfInBounds_toArray, List.set_cons_zero, List.set_cons_succ]
  refine regE_do (i := 10) rfl (by kernel_rfl) (fun K hK => ?_)
  rw [if_pos (by rfl)]
  go_simp
  have h7 := Blk.new wr0 54 #[.bool false, .bool false, .bool false, .int .i64 0, .int .u16 0, .int .u32 0, .int .u32 0, .slice none 0 0]
  obtain ⟨g7, hg7⟩ : ∃ g, wr0.heap.size = g := ⟨_, rfl⟩
  rw [hg7] at h7 ⊢
  have hle7 : w.heap.size < g7 := by rw [← hg7]; exact Nat.lt_of_lt_of_le hz.lt (Nat.le_refl _)
  clear hg7
  refine hK.out _ _ (hR.alloc _) ?_
  clear hK K
  replace hR := hR.alloc (.cells #[.bool false, .bool false, .bool false, .int .i64 0, .int .u16 0, .int .u32 0, .int .u32 0, .slice none 0 0] 54)
  replace hz := hz.alloc (.cells #[.bool false, .bool false, .bool false, .int .i64 0, .int .u16 0, .int .u32 0, .int .u32 0, .slice none 0 0] 54)
  generalize hgw : wr0.alloc (.cells #[.bool false, .bool false, .bool false, .int .i64 0, .int .u16 0, .int .u32 0, .int .u32 0, .slice none 0 0] 54) = wr1 at *
  clear hgw
  try simp only [Act.put, List.setIfInBounds_toArray, List.set_cons_zero, List.set_cons_succ]
  refine regE_do (i := 11) rfl (by kernel_rfl) (fun K hK => ?_)
  rw [if_pos (by rfl)]
  obtain ⟨⟨u0, u1, u2, u3, u4, u5, u6, u7⟩, v7, _⟩ := h7.eight
  go_simp
  refine hK.out _ _ (Ext.put8 hR (Nat.le_of_lt hle7)) ?_
  clear hK K u0 u1 u2 u3 u4 u5 u6 u7 v7
  replace hR := Ext.put8 (w1 := wr1) (g := g7) (a' := (.bool false)) (b' := (.bool false)) (c' := (.bool (decide ((128 : Int) ≤ (b1 : Int))))) (d' := (.int .i64 (IntKind.i64.wrap ((b1 : Int).tmod 128)))) (e' := (.int .u16 0)) (f' := (.int .u32 0)) (k' := (.int .u32 0)) (l' := (.slice none 0 0)) hR (Nat.le_of_lt hle7)
  replace h7 := Blk.put8 (a' := (.bool false)) (b' := (.bool false)) (c' := (.bool (decide ((128 : Int) ≤ (b1 : Int))))) (d' := (.int .i64 (IntKind.i64.wrap ((b1 : Int).tmod 128)))) (e' := (.int .u16 0)) (f' := (.int .u32 0)) (k' := (.int .u32 0)) (l' := (.slice none 0 0)) h7
  replace hz := Blk.far8 (g := g7) (a' := (.bool false)) (b' := (.bool false)) (c' := (.bool (decide ((128 : Int) ≤ (b1 : Int))))) (d' := (.int .i64 (IntKind.i64.wrap ((b1 : Int).tmod 128)))) (e' := (.int .u16 0)) (f' := (.int .u32 0)) (k' := (.int .u32 0)) (l' := (.slice none 0 0)) hz (Nat.ne_of_lt hle7)
  generalize hgw : ((((((((wr1.setCell ⟨g7, 0, none⟩ (.bool false)).setCell ⟨g7, 0 + 1, none⟩ (.bool false)).setCell ⟨g7, 0 + 2, none⟩ (.bool (decide ((128 : Int) ≤ (b1 : Int))))).setCell ⟨g7, 0 + 3, none⟩ (.int .i64 (IntKind.i64.wrap ((b1 : Int).tmod 128)))).setCell ⟨g7, 0 + 4, none⟩ (.int .u16 0)).setCell ⟨g7, 0 + 5, none⟩ (.int .u32 0)).setCell ⟨g7, 0 + 6, none⟩ (.int .u32 0)).setCell ⟨g7, 0 + 7, none⟩ (.slice none 0 0)) = wr2 at *
  clear hgw
  try simp only [Act.put, List.setIfInBounds_toArray, List.set_cons_zero, List.set_cons_succ]
  refine regE_done (by kernel_rfl) ?_
  rw [K3.out, K4.out] at h7 ⊢
  generalize hgw : wr2 = w2 at *
  clear hgw
  have hc0 := f0 _ hR
  have hgne : g ≠ g7 := by have := hb.1.2 n0; obtain ⟨ad, e, hlt, _⟩ := this; cases e; have : g < w.heap.size := hlt; omega
  have hgne2 : ¬ (g = g7 ∧ o = 0) := fun e => hgne e.1
  obtain ⟨⟨u0, u1, u2, u3, u4, u5, u6, u7⟩, v7, hl7⟩ := h7.eight
  go_wp2_with fail
  refine (S2.out _ ((hR.setCell (p := ⟨g7, 0, none⟩) (Nat.le_of_lt hle7) (.bool ((b0 : Int) / 32 % 2 == 1))).setCell (p := ⟨g7, 1, none⟩) (Nat.le_of_lt hle7) (.bool ((b0 : Int) / 16 % 2 == 1)))).mono ?_
  rintro e w' ⟨rfl, rfl⟩
  clear u0 u1 u2 u3 u4 u5 u6 u7 v7 hl7
  replace hR := ((hR.setCell (p := ⟨g7, 0, none⟩) (Nat.le_of_lt hle7) (.bool ((b0 : Int) / 32 % 2 == 1))).setCell (p := ⟨g7, 1, none⟩) (Nat.le_of_lt hle7) (.bool ((b0 : Int) / 16 % 2 == 1)))
  replace h7 := ((h7.set_ 0 (.bool ((b0 : Int) / 32 % 2 == 1))).set_ 1 (.bool ((b0 : Int) / 16 % 2 == 1)))
  simp only [List.setIfInBounds_toArray, List.set_cons_zero, List.set_cons_succ] at h7
  replace hz := ((hz.far (p := ⟨g7, 0, none⟩) (Nat.ne_of_lt hle7) (.bool ((b0 : Int) / 32 % 2 == 1))).far (p := ⟨g7, 1, none⟩) (Nat.ne_of_lt hle7) (.bool ((b0 : Int) / 16 % 2 == 1)))
  generalize hgw : ((w2.setCell ⟨g7, 0, none⟩ (.bool ((b0 : Int) / 32 % 2 == 1))).setCell ⟨g7, 1, none⟩ (.bool ((b0 : Int) / 16 % 2 == 1))) = w3 at *
  clear hgw
  clear hc0 hgne2 f0 f1
  rw [K1.out, K2.out] at h7 ⊢
  obtain ⟨e1, e2⟩ := E16.out
  obtain ⟨⟨u0, u1, u2, u3, u4, u5, u6, u7⟩, v7, hl7⟩ := h7.eight
  go_wp2_with fail
  refine (S4.out _ (hR.setCell (p := ⟨g7, 4, none⟩) (Nat.le_of_lt hle7) (.int .u16 (s2 : Int)))).mono ?_
  rintro e w' ⟨rfl, rfl⟩
  clear u0 u1 u2 u3 u4 u5 u6 u7 v7 hl7
  replace hR := (hR.setCell (p := ⟨g7, 4, none⟩) (Nat.le_of_lt hle7) (.int .u16 (s2 : Int)))
  replace h7 := (h7.set_ 4 (.int .u16 (s2 : Int)))
  simp only [List.setIfInBounds_toArray, List.set_cons_zero, List.set_cons_succ] at h7
  replace hz := (hz.far (p := ⟨g7, 4, none⟩) (Nat.ne_of_lt hle7) (.int .u16 (s2 : Int)))
  generalize hgw : (w3.setCell ⟨g7, 4, none⟩ (.int .u16 (s2 : Int))) = w4 at *
  clear hgw
  clear e1 e2
  obtain ⟨⟨u0, u1, u2, u3, u4, u5, u6, u7⟩, v7, hl7⟩ := h7.eight
  go_wp2_with fail
  refine (S8.out _ (hR.setCell (p := ⟨g7, 5, none⟩) (Nat.le_of_lt hle7) (.int .u32 (n4 : Int)))).mono ?_
  rintro e w' ⟨rfl, rfl⟩
  clear u0 u1 u2 u3 u4 u5 u6 u7 v7 hl7
  replace hR := (hR.setCell (p := ⟨g7, 5, none⟩) (Nat.le_of_lt hle7) (.int .u32 (n4 : Int)))
  replace h7 := (h7.set_ 5 (.int .u32 (n4 : Int)))
  simp only [List.setIfInBounds_toArray, List.set_cons_zero, List.set_cons_succ] at h7
  replace hz := (hz.far (p := ⟨g7, 5, none⟩) (Nat.ne_of_lt hle7) (.int .u32 (n4 : Int)))
  generalize hgw : (w4.setCell ⟨g7, 5, none⟩ (.int .u32 (n4 : Int))) = w5 at *
  clear hgw
  obtain ⟨⟨u0, u1, u2, u3, u4, u5, u6, u7⟩, v7, hl7⟩ := h7.eight
  go_wp2_with fail
  clear u0 u1 u2 u3 u4 u5 u6 u7 v7 hl7
  replace hR := (hR.setCell (p := ⟨g7, 6, none⟩) (Nat.le_of_lt hle7) (.int .u32 (n8 : Int)))
  replace h7 := (h7.set_ 6 (.int .u32 (n8 : Int)))
  simp only [List.setIfInBounds_toArray, List.set_cons_zero, List.set_cons_succ] at h7
  replace hz := (hz.far (p := ⟨g7, 6, none⟩) (Nat.ne_of_lt hle7) (.int .u32 (n8 : Int)))
  generalize hgw : (w5.setCell ⟨g7, 6, none⟩ (.int .u32 (n8 : Int))) = w6 at *
  clear hgw
  have hg7lt := h7.lt
  go_loopw [7] (fun i wr => ∃ (j : Nat) (A' : Option Addr) (c' : Nat), j ≤ m ∧ i = .int .i64 j ∧ Blk wr g7 54 #[.bool (decide (b0 / 32 % 2 = 1)), .bool (decide (b0 / 16 % 2 = 1)), .bool (decide (128 ≤ b1)), .int .i64 ((b1 % 128 : Nat) : Int), .int .u16 (s2 : Int), .int .u32 (n4 : Int), .int .u32 (n8 : Int), .slice A' j c'] ∧ wr.ownsRow w.heap.size 51 e32.size (.slice A' j c') j (e32.cells (cs j (b.drop 12))) ∧ (∀ q, q < g7 + 1 → (Value.slice A' j c').ownBlock ≠ some q) ∧ Blk wr w.heap.size 54 #[.bool false, .bool false, .bool false, .int .i64 0, .int .u16 0, .int .u32 0, .int .u32 0, .slice none 0 0] ∧ Ext w wr) (fun i _ => m - (intOf i).toNat)
  case atStart => exact ⟨0, none, 0, Nat.zero_le _, rfl, h7, World.ownsRow_nil _ _ _ _, fun _ _ => by simp [Value.ownBlock], hz, hR⟩
  case round =>
    clear h7 hz hR
    obtain ⟨j, A', c', hj, rfl, h7, h2, h3, hz, hR⟩ := hrel
    by_cases hlt2 : j < m
    · obtain ⟨q, hq⟩ : ∃ q, UInt32.ofNat (val ((b.drop (12 + 4 * j)).take 4)) = q := ⟨_, rfl⟩
      have hcs := cs_snoc j (b.drop 12)
      rw [List.drop_drop, hq] at hcs
      have HCS := hide hcs
      obtain ⟨a, ha⟩ : ∃ a, 12 + 4 * j = a := ⟨_, rfl⟩
      have e1 : IntKind.i64.wrap (4 * (j : Int)) = 4 * (j : Int) := IntWalk.i64_in _ (by omega)
      have e2 : IntKind.i64.wrap (12 + 4 * (j : Int)) = (a : Int) := by rw [IntWalk.i64_in _ (by omega)]; omega
      have SN := hide (fun W hW => rnum_ok _ n c b a 4 W (hb.ext hW) (by omega) (by omega) (by omega) q.toNat (by rw [← hq, ← ha]))
      clear hcs hq ha
      generalize hL : cs j (b.drop 12) = L at h2
      have HLL := hide hL
      clear hL
      have hR2 := hR
      have hwn : wr.heap.size ≤ wr.heap.size := Nat.le_refl _
      go_wp2_with fail
      obtain ⟨W, hW⟩ : ∃ W, wr = W := ⟨_, rfl⟩
      subst hW
      clear hR
      refine regE_start_at (hR2) (by kernel_rfl) ?_
      have hR := (hR2).drew
      replace h7 := h7.drew
      replace h2 := h2.drew
      replace hz := hz.drew
      generalize hgw : (wr).drew = wr0 at *
      clear hgw
      refine regE_take (i := 0) (v := ?_) rfl (by kernel_rfl) (by kernel_rfl) (by kernel_rfl) (fun _ _ _ h => h) (by rfl) ?_ ?_
      rotate_left
      · intro W hW; go_simp; try with_reducible rfl
      simp only [Act.put, List.setIfInBounds_toArray, List.set_cons_zero, List.set_cons_succ]
      refine regE_take (i := 2) (v := ?_) rfl (by kernel_rfl) (by kernel_rfl) (by kernel_rfl) (fun _ _ _ h => h) (by rfl) ?_ ?_
      rotate_left
      · intro W hW; go_simp; try with_reducible rfl
      simp only [Act.put, List.setIfInBounds_toArray, List.set_cons_zero, List.set_cons_succ]
      refine regE_take (i := 3) (v := ?_) rfl (by kernel_rfl) (by kernel_rfl) (by kernel_rfl) (fun _ _ _ h => h) (by rfl) ?_ ?_
      rotate_left
      · intro W hW; go_simp; try with_reducible rfl
      simp only [Act.put, List.setIfInBounds_toArray, List.set_cons_zero, List.set_cons_succ]
      refine regE_take (i := 4) (v := ?_) rfl (by kernel_rfl) (by kernel_rfl) (by kernel_rfl) (fun _ _ _ h => h) (by rfl) ?_ ?_
      rotate_left
      · intro W hW; go_simp; try with_reducible rfl
      simp only [Act.put, List.setIfInBounds_toArray, List.set_cons_zero, List.set_cons_succ]
      refine regE_take (i := 5) (v := ?_) rfl (by kernel_rfl) (by kernel_rfl) (by kernel_rfl) (fun _ _ _ h => h) (by rfl) ?_ ?_
      rotate_left
      · intro W hW; go_simp; try with_reducible rfl
      simp only [Act.put, List.setIfInBounds_toArray, List.set_cons_zero, List.set_cons_succ]
      refine regE_do2 (i0 := 1) (i1 := 6) (by kernel_rfl) rfl rfl (fun K hK => ?_) (fun K hK => ?_)
      · rw [if_pos (by rfl)]
        have cS := h7.cell 7
        simp at cS
        go_simp
        refine hK.out _ _ hR ?_
        clear hK K
        try simp only [Act.put, List.setIfInBounds_toArray, List.set_cons_zero, List.set_cons_succ]
        refine regE_do (i := 6) rfl (by kernel_rfl) (fun K hK => ?_)
        rw [if_pos (by rfl)]
        go_simp
        refine (SN.out _ hR).mono ?_
        rintro e w' ⟨rfl, rfl⟩
        refine hK.out _ _ hR ?_
        clear hK K
        try simp only [Act.put, List.setIfInBounds_toArray, List.set_cons_zero, List.set_cons_succ]
        refine regE_do (i := 7) rfl (by kernel_rfl) (fun K hK => ?_)
        rw [if_pos (by rfl)]
        go_simp
        have hL := Els.lit (E := e32) (w := wr0) (vs := [.int .u32 (q.toNat : Int)]) [q] 51 1 rfl rfl (by omega)
        obtain ⟨gL, hgL⟩ : ∃ g, wr0.heap.size = g := ⟨_, rfl⟩
        rw [hgL] at hL ⊢
        clear hgL
        refine hK.out _ _ (hR.alloc _) ?_
        clear hK K
        replace hR := hR.alloc (.cells #[.int .u32 (q.toNat : Int)] 51)
        replace h7 := h7.alloc (.cells #[.int .u32 (q.toNat : Int)] 51)
        replace h2 := h2.alloc (.cells #[.int .u32 (q.toNat : Int)] 51)
        replace hz := hz.alloc (.cells #[.int .u32 (q.toNat : Int)] 51)
        generalize hgw : wr0.alloc (.cells #[.int .u32 (q.toNat : Int)] 51) = wr1 at *
        clear hgw
        try simp only [Act.put, List.setIfInBounds_toArray, List.set_cons_zero, List.set_cons_succ]
        refine regE_do (i := 8) rfl (by kernel_rfl) (fun K hK => ?_)
        rw [if_pos (by rfl)]
        refine wp_appEg T w _ _ rfl hR A' j c' L rfl h2 _ 1 1 [q] rfl hL (by omega) ?_
        intro A2 c2 wr2 hown2 hE2 hg2 hk2
        refine hK.out _ _ hE2 ?_
        clear hK K
        replace hR := hE2
        have h3' := fun b (hb : b < g7 + 1) => (hk2 b (by have := h7.lt; omega) (h3 b hb)).1
        replace h7 := (hk2.blk h7 (h3 g7 (by omega))).1
        replace hz := (hk2.blk hz (h3 _ (by omega))).1
        replace h2 := hown2
        clear hg2 hk2 hE2 hown2 hL
        try simp only [Act.put, List.setIfInBounds_toArray, List.set_cons_zero, List.set_cons_succ]
        refine regE_take (i := 9) (v := ?_) rfl (by kernel_rfl) (by kernel_rfl) (by kernel_rfl) (fun _ _ _ h => h) (by rfl) ?_ ?_
        rotate_left
        · intro W hW; go_simp; try with_reducible rfl
        simp only [Act.put, List.setIfInBounds_toArray, List.set_cons_zero, List.set_cons_succ]
        refine regE_do (i := 10) rfl (by kernel_rfl) (fun K hK => ?_)
        rw [if_pos (by rfl)]
        have uS := h7.cell 7
        have vS := h7.frozen 7
        simp at uS
        go_simp
        refine hK.out _ _ (hR.setCell (p := ⟨g7, 7, none⟩) (Nat.le_of_lt hle7) _) ?_
        clear hK K uS vS
        replace hR := hR.setCell (p := ⟨g7, 7, none⟩) (Nat.le_of_lt hle7) (.slice A2 (j + 1) c2)
        replace h7 := h7.set_ 7 (.slice A2 (j + 1) c2)
        simp only [List.setIfInBounds_toArray, List.set_cons_zero, List.set_cons_succ] at h7
        replace h2 := own_set h2 (p := ⟨g7, 7, none⟩) (h3' g7 (by omega)) (.slice A2 (j + 1) c2)
        replace hz := hz.far (p := ⟨g7, 7, none⟩) (fun e => by have e' : _ = g7 := e; omega) (.slice A2 (j + 1) c2)
        generalize hgw : wr2.setCell ⟨g7, 7, none⟩ (.slice A2 (j + 1) c2) = wr3 at *
        clear hgw
        try simp only [Act.put, List.setIfInBounds_toArray, List.set_cons_zero, List.set_cons_succ]
        refine regE_done (by kernel_rfl) ?_
        go_wp2_with fail
        go_roundw
        case rel => exact ⟨j + 1, A2, c2, by omega, by go_num, h7, by rw [HCS.out, HLL.out]; exact h2, h3', hz, hR⟩
        case measure => simp [intOf]; omega
      · rw [if_pos (by rfl)]
        go_simp
        refine (SN.out _ hR).mono ?_
        rintro e w' ⟨rfl, rfl⟩
        refine hK.out _ _ hR ?_
        clear hK K
        try simp only [Act.put, List.setIfInBounds_toArray, List.set_cons_zero, List.set_cons_succ]
        refine regE_do2 (i0 := 1) (i1 := 7) (by kernel_rfl) rfl rfl (fun K hK => ?_) (fun K hK => ?_)
        · rw [if_pos (by rfl)]
          have cS := h7.cell 7
          simp at cS
          go_simp
          refine hK.out _ _ hR ?_
          clear hK K
          try simp only [Act.put, List.setIfInBounds_toArray, List.set_cons_zero, List.set_cons_succ]
          refine regE_do (i := 7) rfl (by kernel_rfl) (fun K hK => ?_)
          rw [if_pos (by rfl)]
          go_simp
          have hL := Els.lit (E := e32) (w := wr0) (vs := [.int .u32 (q.toNat : Int)]) [q] 51 1 rfl rfl (by omega)
          obtain ⟨gL, hgL⟩ : ∃ g, wr0.heap.size = g := ⟨_, rfl⟩
          rw [hgL] at hL ⊢
          clear hgL
          refine hK.out _ _ (hR.alloc _) ?_
          clear hK K
          replace hR := hR.alloc (.cells #[.int .u32 (q.toNat : Int)] 51)
          replace h7 := h7.alloc (.cells #[.int .u32 (q.toNat : Int)] 51)
          replace h2 := h2.alloc (.cells #[.int .u32 (q.toNat : Int)] 51)
          replace hz := hz.alloc (.cells #[.int .u32 (q.toNat : Int)] 51)
          generalize hgw : wr0.alloc (.cells #[.int .u32 (q.toNat : Int)] 51) = wr1 at *
          clear hgw
          try simp only [Act.put, List.setIfInBounds_toArray, List.set_cons_zero, List.set_cons_succ]
          refine regE_do (i := 8) rfl (by kernel_rfl) (fun K hK => ?_)
          rw [if_pos (by rfl)]
          refine wp_appEg T w _ _ rfl hR A' j c' L rfl h2 _ 1 1 [q] rfl hL (by omega) ?_
          intro A2 c2 wr2 hown2 hE2 hg2 hk2
          refine hK.out _ _ hE2 ?_
          clear hK K
          replace hR := hE2
          have h3' := fun b (hb : b < g7 + 1) => (hk2 b (by have := h7.lt; omega) (h3 b hb)).1
          replace h7 := (hk2.blk h7 (h3 g7 (by omega))).1
          replace hz := (hk2.blk hz (h3 _ (by omega))).1
          replace h2 := hown2
          clear hg2 hk2 hE2 hown2 hL
          try simp only [Act.put, List.setIfInBounds_toArray, List.set_cons_zero, List.set_cons_succ]
          refine regE_take (i := 9) (v := ?_) rfl (by kernel_rfl) (by kernel_rfl) (by kernel_rfl) (fun _ _ _ h => h) (by rfl) ?_ ?_
          rotate_left
          · intro W hW; go_simp; try with_reducible rfl
          simp only [Act.put, List.setIfInBounds_toArray, List.set_cons_zero, List.set_cons_succ]
          refine regE_do (i := 10) rfl (by kernel_rfl) (fun K hK => ?_)
          rw [if_pos (by rfl)]
          have uS := h7.cell 7
          have vS := h7.frozen 7
          simp at uS
          go_simp
          refine hK.out _ _ (hR.setCell (p := ⟨g7, 7, none⟩) (Nat.le_of_lt hle7) _) ?_
          clear hK K uS vS
          replace hR := hR.setCell (p := ⟨g7, 7, none⟩) (Nat.le_of_lt hle7) (.slice A2 (j + 1) c2)
          replace h7 := h7.set_ 7 (.slice A2 (j + 1) c2)
          simp only [List.setIfInBounds_toArray, List.set_cons_zero, List.set_cons_succ] at h7
          replace h2 := own_set h2 (p := ⟨g7, 7, none⟩) (h3' g7 (by omega)) (.slice A2 (j + 1) c2)
          replace hz := hz.far (p := ⟨g7, 7, none⟩) (fun e => by have e' : _ = g7 := e; omega) (.slice A2 (j + 1) c2)
          generalize hgw : wr2.setCell ⟨g7, 7, none⟩ (.slice A2 (j + 1) c2) = wr3 at *
          clear hgw
          try simp only [Act.put, List.setIfInBounds_toArray, List.set_cons_zero, List.set_cons_succ]
          refine regE_done (by kernel_rfl) ?_
          go_wp2_with fail
          go_roundw
          case rel => exact ⟨j + 1, A2, c2, by omega, by go_num, h7, by rw [HCS.out, HLL.out]; exact h2, h3', hz, hR⟩
          case measure => simp [intOf]; omega
        · rw [if_pos (by rfl)]
          go_simp
          have hL := Els.lit (E := e32) (w := wr0) (vs := [.int .u32 (q.toNat : Int)]) [q] 51 1 rfl rfl (by omega)
          obtain ⟨gL, hgL⟩ : ∃ g, wr0.heap.size = g := ⟨_, rfl⟩
          rw [hgL] at hL ⊢
          clear hgL
          refine hK.out _ _ (hR.alloc _) ?_
          clear hK K
          replace hR := hR.alloc (.cells #[.int .u32 (q.toNat : Int)] 51)
          replace h7 := h7.alloc (.cells #[.int .u32 (q.toNat : Int)] 51)
          replace h2 := h2.alloc (.cells #[.int .u32 (q.toNat : Int)] 51)
          replace hz := hz.alloc (.cells #[.int .u32 (q.toNat : Int)] 51)
          generalize hgw : wr0.alloc (.cells #[.int .u32 (q.toNat : Int)] 51) = wr1 at *
          clear hgw
          try simp only [Act.put, List.setIfInBounds_toArray, List.set_cons_zero, List.set_cons_succ]
          refine regE_do (i := 1) rfl (by kernel_rfl) (fun K hK => ?_)
          rw [if_pos (by rfl)]
          have cS := h7.cell 7
          simp at cS
          go_simp
          refine hK.out _ _ hR ?_
          clear hK K
          try simp only [Act.put, List.setIfInBounds_toArray, List.set_cons_zero, List.set_cons_succ]
          refine regE_do (i := 8) rfl (by kernel_rfl) (fun K hK => ?_)
          rw [if_pos (by rfl)]
          refine wp_appEg T w _ _ rfl hR A' j c' L rfl h2 _ 1 1 [q] rfl hL (by omega) ?_
          intro A2 c2 wr2 hown2 hE2 hg2 hk2
          refine hK.out _ _ hE2 ?_
          clear hK K
          replace hR := hE2
          have h3' := fun b (hb : b < g7 + 1) => (hk2 b (by have := h7.lt; omega) (h3 b hb)).1
          replace h7 := (hk2.blk h7 (h3 g7 (by omega))).1
          replace hz := (hk2.blk hz (h3 _ (by omega))).1
          replace h2 := hown2
          clear hg2 hk2 hE2 hown2 hL
          try simp only [Act.put, List.setIfInBounds_toArray, List.set_cons_zero, List.set_cons_succ]
          refine regE_take (i := 9) (v := ?_) rfl (by kernel_rfl) (by kernel_rfl) (by kernel_rfl) (fun _ _ _ h => h) (by rfl) ?_ ?_
          rotate_left
          · intro W hW; go_simp; try with_reducible rfl
          simp only [Act.put, List.setIfInBounds_toArray, List.set_cons_zero, List.set_cons_succ]
          refine regE_do (i := 10) rfl (by kernel_rfl) (fun K hK => ?_)
          rw [if_pos (by rfl)]
          have uS := h7.cell 7
          have vS := h7.frozen 7
          simp at uS
          go_simp
          refine hK.out _ _ (hR.setCell (p := ⟨g7, 7, none⟩) (Nat.le_of_lt hle7) _) ?_
          clear hK K uS vS
          replace hR := hR.setCell (p := ⟨g7, 7, none⟩) (Nat.le_of_lt hle7) (.slice A2 (j + 1) c2)
          replace h7 := h7.set_ 7 (.slice A2 (j + 1) c2)
          simp only [List.setIfInBounds_toArray, List.set_cons_zero, List.set_cons_succ] at h7
          replace h2 := own_set h2 (p := ⟨g7, 7, none⟩) (h3' g7 (by omega)) (.slice A2 (j + 1) c2)
          replace hz := hz.far (p := ⟨g7, 7, none⟩) (fun e => by have e' : _ = g7 := e; omega) (.slice A2 (j + 1) c2)
          generalize hgw : wr2.setCell ⟨g7, 7, none⟩ (.slice A2 (j + 1) c2) = wr3 at *
          clear hgw
          try simp only [Act.put, List.setIfInBounds_toArray, List.set_cons_zero, List.set_cons_succ]
          refine regE_done (by kernel_rfl) ?_
          go_wp2_with fail
          go_roundw
          case rel => exact ⟨j + 1, A2, c2, by omega, by go_num, h7, by rw [HCS.out, HLL.out]; exact h2, h3', hz, hR⟩
          case measure => simp [intOf]; omega
    · obtain rfl : j = m := by omega
      have hRv : (12 + 4 * (j : Int)) = ((12 + 4 * j : Nat) : Int) := by omega
      obtain ⟨⟨u0, u1, u2, u3, u4, u5, u6, u7⟩, v7, hl7⟩ := h7.eight
      obtain ⟨⟨r0, r1, r2, r3, r4, r5, r6, r7⟩, rf, hlz⟩ := hz.eight
      have hzf : Blk ((((((((wr.setCell ⟨w.heap.size, 0, none⟩ (.bool (decide (b0 / 32 % 2 = 1)))).setCell ⟨w.heap.size, 1, none⟩ (.bool (decide (b0 / 16 % 2 = 1)))).setCell ⟨w.heap.size, 2, none⟩ (.bool (decide (128 ≤ b1)))).setCell ⟨w.heap.size, 3, none⟩ (.int .i64 ((b1 : Int) % 128))).setCell ⟨w.heap.size, 4, none⟩ (.int .u16 (s2 : Int))).setCell ⟨w.heap.size, 5, none⟩ (.int .u32 (n4 : Int))).setCell ⟨w.heap.size, 6, none⟩ (.int .u32 (n8 : Int))).setCell ⟨w.heap.size, 7, none⟩ (.slice A' j c')) w.heap.size _ _ := Blk.put8 hz
      have h2f : ((((((((wr.setCell ⟨w.heap.size, 0, none⟩ (.bool (decide (b0 / 32 % 2 = 1)))).setCell ⟨w.heap.size, 1, none⟩ (.bool (decide (b0 / 16 % 2 = 1)))).setCell ⟨w.heap.size, 2, none⟩ (.bool (decide (128 ≤ b1)))).setCell ⟨w.heap.size, 3, none⟩ (.int .i64 ((b1 : Int) % 128))).setCell ⟨w.heap.size, 4, none⟩ (.int .u16 (s2 : Int))).setCell ⟨w.heap.size, 5, none⟩ (.int .u32 (n4 : Int))).setCell ⟨w.heap.size, 6, none⟩ (.int .u32 (n8 : Int))).setCell ⟨w.heap.size, 7, none⟩ (.slice A' j c')).ownsRow _ _ _ _ _ _ := own_put8 h2 (h3 _ (by omega))
      have hBf : Ext w ((((((((wr.setCell ⟨w.heap.size, 0, none⟩ (.bool (decide (b0 / 32 % 2 = 1)))).setCell ⟨w.heap.size, 1, none⟩ (.bool (decide (b0 / 16 % 2 = 1)))).setCell ⟨w.heap.size, 2, none⟩ (.bool (decide (128 ≤ b1)))).setCell ⟨w.heap.size, 3, none⟩ (.int .i64 ((b1 : Int) % 128))).setCell ⟨w.heap.size, 4, none⟩ (.int .u16 (s2 : Int))).setCell ⟨w.heap.size, 5, none⟩ (.int .u32 (n4 : Int))).setCell ⟨w.heap.size, 6, none⟩ (.int .u32 (n8 : Int))).setCell ⟨w.heap.size, 7, none⟩ (.slice A' j c')) := Ext.put8 hR (Nat.le_refl _)
      have HRV := hide hRv
      clear hRv
      go_wp2_with fail
      clear u0 u1 u2 u3 u4 u5 u6 u7 v7 hl7 r0 r1 r2 r3 r4 r5 r6 r7 rf hlz
      generalize hgw : ((((((((wr.setCell ⟨w.heap.size, 0, none⟩ (.bool (decide (b0 / 32 % 2 = 1)))).setCell ⟨w.heap.size, 1, none⟩ (.bool (decide (b0 / 16 % 2 = 1)))).setCell ⟨w.heap.size, 2, none⟩ (.bool (decide (128 ≤ b1)))).setCell ⟨w.heap.size, 3, none⟩ (.int .i64 ((b1 : Int) % 128))).setCell ⟨w.heap.size, 4, none⟩ (.int .u16 (s2 : Int))).setCell ⟨w.heap.size, 5, none⟩ (.int .u32 (n4 : Int))).setCell ⟨w.heap.size, 6, none⟩ (.int .u32 (n8 : Int))).setCell ⟨w.heap.size, 7, none⟩ (.slice A' j c')) = Wf at *
      clear hgw
      obtain ⟨⟨u0, u1, u2, u3, u4, u5, u6, u7⟩, _, _⟩ := hzf.eight
      refine bodyPost_ret (v := .tuple #[.agg #[(.bool (decide (b0 / 32 % 2 = 1))),(.bool (decide (b0 / 16 % 2 = 1))),(.bool (decide (128 ≤ b1))),(.int .i64 ((b1 : Int) % 128)),(.int .u16 (s2 : Int)),(.int .u32 (n4 : Int)),(.int .u32 (n8 : Int)),(.slice A' j c')], .int .i64 (12 + 4 * (j : Int)), .int .i64 0]) (by simp [results, Try.results32, go_sem, u0, u1, u2, u3, u4, u5, u6, u7]) rfl ⟨A', c', ?_, Els.own (E := e32) h2f, hBf⟩
      simp
/-- The document's Read, whatever the bytes are. -/
theorem rhread_any (A : Option Addr) (n c : Nat) (b : List UInt8) (w : World) (hb : Bytes w A n c b) : Calls Try.prog 32 #[.slice A n c] w fun e w' =>
    ∃ A' c', e = .returned (.tuple #[.agg #[.bool (hH b).pad, .bool (hH b).ext, .bool (hH b).mark, .int .i64 (hH b).typ, .int .u16 ((hH b).seq.toNat : Int), .int .u32 ((hH b).time.toNat : Int), .int .u32 ((hH b).ssrc.toNat : Int), .slice A' (hH b).csrc.length c'], .int .i64 (hN b : Int), .int .i64 (hE b)]) ∧ Els e32 w' A' (hH b).csrc.length c' (hH b).csrc ∧ Ext w w' := by
  have hlen := hb.len
  have hz : ∀ E : Int, hE b = E → E ≠ 0 → ∀ e w', (e = Ending.returned (.tuple #[.agg #[.bool false, .bool false, .bool false, .int .i64 0, .int .u16 0, .int .u32 0, .int .u32 0, .slice none 0 0], .int .i64 0, .int .i64 E]) ∧ Ext w w') → ∃ A' c', e = .returned (.tuple #[.agg #[.bool (hH b).pad, .bool (hH b).ext, .bool (hH b).mark, .int .i64 (hH b).typ, .int .u16 ((hH b).seq.toNat : Int), .int .u32 ((hH b).time.toNat : Int), .int .u32 ((hH b).ssrc.toNat : Int), .slice A' (hH b).csrc.length c'], .int .i64 (hN b : Int), .int .i64 (hE b)]) ∧ Els e32 w' A' (hH b).csrc.length c' (hH b).csrc ∧ Ext w w' := by
    rintro E hE0 hne e w' ⟨rfl, hX⟩
    obtain ⟨q1, q2⟩ := hE_off b (by rw [hE0]; exact hne)
    rw [q1, q2, hE0]
    exact ⟨none, 0, rfl, Els.nil _, hX⟩
  by_cases h1 : n < 12
  · exact (rhread_short A n c w h1).mono fun e w' h => hz 2 (by unfold hE; rw [if_pos (by omega)]) (by decide) e w' h
  · obtain ⟨g, o, rfl, hg⟩ := hb.form (by omega)
    by_cases h2 : (b.getD 0 0).toNat / 64 = 2
    · by_cases h3 : n < 12 + 4 * ((b.getD 0 0).toNat % 16)
      · exact (rhread_short2 g o n c b w hb (by omega) h2 h3).mono fun e w' h => hz 2 (by unfold hE; rw [if_neg (by omega), if_neg (by omega), if_pos (by omega)]) (by decide) e w' h
      · have e0 : hE b = 0 := by unfold hE; rw [if_neg (by omega), if_neg (by omega), if_neg (by omega)]
        have e1 : hH b = hRaw b := by unfold hH; rw [if_pos e0]
        have e2 : hN b = 12 + 4 * ((b.getD 0 0).toNat % 16) := by unfold hN; rw [if_pos e0]
        have e3 : (hRaw b).csrc.length = (b.getD 0 0).toNat % 16 := by simp [hRaw, cs_len]
        rw [e0, e1, e2, e3]
        exact rhread_ok g o n c b w hb (by omega) h2 (by omega)
    · exact (rhread_version g o n c b w hb (by omega) h2).mono fun e w' h => hz 3 (by unfold hE; rw [if_neg (by omega), if_pos h2]) (by decide) e w' h
end Go.Proofs.Ytiamcdbnhmlhaaa

/- vp8's reader: take: the walk. -/
import Derived.Test.YtcdacnhggpfnaaaVp8W
namespace Go.Proofs.Ytcdacnhggpfnaaa
open Go.RowKit
/-- Only blocks of S may be otherwise. -/
structure Chg (S : Nat → Prop) (w w' : World) : Prop where
  ext : ∀ W0, (∀ b, S b → W0.heap.size ≤ b) → Ext W0 w → Ext W0 w'
  blk : ∀ q t cs, ¬ S q → Blk w q t cs → Blk w' q t cs
theorem Chg.refl (S : Nat → Prop) (w : World) : Chg S w w := ⟨fun _ _ h => h, fun _ _ _ _ h => h⟩
theorem Chg.trans {S : Nat → Prop} {w w1 w2 : World} (h : Chg S w w1) (h' : Chg S w1 w2) : Chg S w w2 := ⟨fun W0 hS hE => h'.ext W0 hS (h.ext W0 hS hE), fun q t cs hq hb => h'.blk q t cs hq (h.blk q t cs hq hb)⟩
theorem Chg.mono {S T : Nat → Prop} {w w1 : World} (h : Chg S w w1) (hST : ∀ b, S b → T b) : Chg T w w1 := ⟨fun W0 hT hE => h.ext W0 (fun b hb => hT b (hST b hb)) hE, fun q t cs hq hb => h.blk q t cs (fun q' => hq (hST q q')) hb⟩
theorem Chg.drew (S : Nat → Prop) (w : World) : Chg S w w.drew := ⟨fun _ _ h => h.drew, fun _ _ _ _ h => h⟩
theorem Chg.of_ext {S : Nat → Prop} {w w' : World} (h : Ext w w') : Chg S w w' := ⟨fun _ _ hE => hE.trans h, fun _ _ _ _ hb => hb.below h hb.lt⟩
theorem Chg.set_ {S : Nat → Prop} (w : World) (g i : Nat) (u : Value) (hS : S g) : Chg S w (w.setCell ⟨g, i, none⟩ u) :=
  ⟨fun W0 hT hE => hE.setCell (p := ⟨g, i, none⟩) (hT g hS) u, fun q t cs hq hb => hb.far (p := ⟨g, i, none⟩) (fun e => hq (by have e' : q = g := e; rw [e']; exact hS)) u⟩
theorem Blk.sixR {w : World} {g : Nat} {t : TypeId} {a b c d e f : Value} (h : Blk w g t #[a, b, c, d, e, f]) :
    (w.cell? ⟨g, 0, none⟩ = some a ∧ w.cell? ⟨g, 1, none⟩ = some b ∧ w.cell? ⟨g, 2, none⟩ = some c ∧ w.cell? ⟨g, 3, none⟩ = some d ∧ w.cell? ⟨g, 4, none⟩ = some e ∧ w.cell? ⟨g, 5, none⟩ = some f) ∧ (∀ i, w.frozen? ⟨g, i, none⟩ = false) ∧ g < w.heap.size :=
  ⟨⟨h.cell 0, h.cell 1, h.cell 2, h.cell 3, h.cell 4, h.cell 5⟩, h.frozen, h.lt⟩
set_option maxRecDepth 100000 in
set_option maxHeartbeats 2000000 in
theorem take_ok (g : Nat) (A : Option Addr) (n c : Nat) (b : List UInt8) (at_ k : Nat) (s : Bool) (p l ky : Int) (w : World) (hb : Bytes w A n c b) (hg : Blk w g 105 #[.slice A n c, .int .i64 (at_ : Int), .bool s, .int .i64 p, .int .i64 l, .int .i64 ky]) (hk1 : 1 ≤ k) (hk2 : k ≤ 2) (hn : n ≤ 1000000) (hat : at_ + k ≤ n) (v : Nat) (hv : getV b at_ k = v) :
    Calls Try.prog 77 #[.pointer (some ⟨g, 0, none⟩), .int .i64 (k : Int)] w fun e w' => e = .returned (.tuple #[.int .i64 (v : Int), .int .i64 (at_ : Int)]) ∧ Blk w' g 105 #[.slice A n c, .int .i64 ((at_ + k : Nat) : Int), .bool s, .int .i64 p, .int .i64 l, .int .i64 ky] ∧ Chg (· = g) w w' := by
  have hE : getE b.length at_ k = 0 := getE_of (by omega) (by omega) (by omega) (by rw [hb.len]; omega)
  have hvl := getV_lt hE
  rw [hv] at hvl
  have hv64 : v < 65536 := by
    have h : (256 : Nat) ^ (k : Int).toNat ≤ 65536 := by
      rw [Int.toNat_natCast]
      have : k = 1 ∨ k = 2 := by omega
      rcases this with rfl | rfl <;> decide
    omega
  have S := hide (fun W h => get_B A n c b (at_ : Int) (k : Int) W h v hv 0 hE)
  clear hE hvl hv
  have k1 : IntKind.i64.wrap ((at_ : Int) + (k : Int)) = ((at_ + k : Nat) : Int) := by rw [IntWalk.i64_in _ (by omega)]; omega
  have k2 : IntKind.i64.wrap (((at_ + k : Nat) : Int) - (k : Int)) = (at_ : Int) := by rw [IntWalk.i64_in _ (by omega)]; omega
  have k3 : IntKind.i64.wrap (v : Int) = (v : Int) := IntWalk.i64_in _ (by omega)
  obtain ⟨q, hq⟩ : ∃ q, at_ + k = q := ⟨_, rfl⟩
  rw [hq] at k1 k2 ⊢
  have k4 : (at_ : Int) + (k : Int) = (q : Int) := by omega
  have k5 : (q : Int) - (k : Int) = (at_ : Int) := by omega
  have k6 : IntKind.i64.wrap (q : Int) = (q : Int) := IntWalk.i64_in _ (by omega)
  have k7 : IntKind.i64.wrap (at_ : Int) = (at_ : Int) := IntWalk.i64_in _ (by omega)
  have HK := hide (And.intro k1 (And.intro k2 (And.intro k3 (And.intro k4 (And.intro k5 (And.intro k6 k7))))))
  clear k1 k2 k3 k4 k5 k6 k7 hq hat
  go_enter Try.func77, Try.ntmps77
  go_upto_region 1 with fail
  refine regE_start (by kernel_rfl) ?_
  have hR := (Ext.refl w).drew
  generalize hgw : (w).drew = wr0 at *
  clear hgw
  refine regE_take (i := 0) (v := ?_) rfl (by kernel_rfl) (by kernel_rfl) (by kernel_rfl) (fun _ _ _ h => h) (by rfl) ?_ ?_
  rotate_left
  · intro W hW; go_simp; try with_reducible rfl
  simp only [Act.put, List.setIfInBounds_toArray, List.set_cons_zero, List.set_cons_succ]
  refine regE_take (i := 1) (v := ?_) rfl (by kernel_rfl) (by kernel_rfl) (by kernel_rfl) (fun _ _ _ h => h) (by rfl) ?_ ?_
  rotate_left
  · intro W hW; go_simp; try with_reducible rfl
  simp only [Act.put, List.setIfInBounds_toArray, List.set_cons_zero, List.set_cons_succ]
  refine regE_take (i := 2) (v := ?_) rfl (by kernel_rfl) (by kernel_rfl) (by kernel_rfl) (fun _ _ _ h => h) (by rfl) ?_ ?_
  rotate_left
  · intro W hW; go_simp; try with_reducible rfl
  simp only [Act.put, List.setIfInBounds_toArray, List.set_cons_zero, List.set_cons_succ]
  refine regE_take (i := 3) (v := ?_) rfl (by kernel_rfl) (by kernel_rfl) (by kernel_rfl) (fun _ _ _ h => h) (by rfl) ?_ ?_
  rotate_left
  · intro W hW; obtain ⟨⟨x0, x1, x2, x3, x4, x5⟩, _, _⟩ := (hg.below hW hg.lt).sixR; go_simp; try with_reducible rfl
  simp only [Act.put, List.setIfInBounds_toArray, List.set_cons_zero, List.set_cons_succ]
  refine regE_take (i := 4) (v := ?_) rfl (by kernel_rfl) (by kernel_rfl) (by kernel_rfl) (fun _ _ _ h => h) (by rfl) ?_ ?_
  rotate_left
  · intro W hW; go_simp; try with_reducible rfl
  simp only [Act.put, List.setIfInBounds_toArray, List.set_cons_zero, List.set_cons_succ]
  refine regE_take (i := 5) (v := ?_) rfl (by kernel_rfl) (by kernel_rfl) (by kernel_rfl) (fun _ _ _ h => h) (by rfl) ?_ ?_
  rotate_left
  · intro W hW; go_simp; try with_reducible rfl
  simp only [Act.put, List.setIfInBounds_toArray, List.set_cons_zero, List.set_cons_succ]
  refine regE_take (i := 6) (v := ?_) rfl (by kernel_rfl) (by kernel_rfl) (by kernel_rfl) (fun _ _ _ h => h) (by rfl) ?_ ?_
  rotate_left
  · intro W hW; go_simp; try with_reducible rfl
  simp only [Act.put, List.setIfInBounds_toArray, List.set_cons_zero, List.set_cons_succ]
  refine regE_take (i := 7) (v := ?_) rfl (by kernel_rfl) (by kernel_rfl) (by kernel_rfl) (fun _ _ _ h => h) (by rfl) ?_ ?_
  rotate_left
  · intro W hW; obtain ⟨⟨x0, x1, x2, x3, x4, x5⟩, _, _⟩ := (hg.below hW hg.lt).sixR; go_simp; try with_reducible rfl
  simp only [Act.put, List.setIfInBounds_toArray, List.set_cons_zero, List.set_cons_succ]
  refine regE_take (i := 8) (v := ?_) rfl (by kernel_rfl) (by kernel_rfl) (by kernel_rfl) (fun _ _ _ h => h) (by rfl) ?_ ?_
  rotate_left
  · intro W hW; go_simp; try with_reducible rfl
  simp only [Act.put, List.setIfInBounds_toArray, List.set_cons_zero, List.set_cons_succ]
  refine regE_do (i := 9) rfl (by kernel_rfl) (fun K hK => ?_)
  rw [if_pos (by rfl)]
  go_simp
  refine (S.out _ (hb.ext hR)).mono ?_
  rintro e w' ⟨rfl, rfl⟩
  refine hK.out _ _ hR ?_
  clear hK K
  try simp only [Act.put, List.setIfInBounds_toArray, List.set_cons_zero, List.set_cons_succ]
  refine regE_take (i := 10) (v := ?_) rfl (by kernel_rfl) (by kernel_rfl) (by kernel_rfl) (fun _ _ _ h => h) (by rfl) ?_ ?_
  rotate_left
  · intro W hW; go_simp; try with_reducible rfl
  simp only [Act.put, List.setIfInBounds_toArray, List.set_cons_zero, List.set_cons_succ]
  refine regE_take (i := 11) (v := ?_) rfl (by kernel_rfl) (by kernel_rfl) (by kernel_rfl) (fun _ _ _ h => h) (by rfl) ?_ ?_
  rotate_left
  · intro W hW; go_simp; try with_reducible rfl
  simp only [Act.put, List.setIfInBounds_toArray, List.set_cons_zero, List.set_cons_succ]
  refine regE_take (i := 12) (v := ?_) rfl (by kernel_rfl) (by kernel_rfl) (by kernel_rfl) (fun _ _ _ h => h) (by rfl) ?_ ?_
  rotate_left
  · intro W hW; go_simp; try with_reducible rfl
  simp only [Act.put, List.setIfInBounds_toArray, List.set_cons_zero, List.set_cons_succ]
  refine regE_take (i := 13) (v := ?_) rfl (by kernel_rfl) (by kernel_rfl) (by kernel_rfl) (fun _ _ _ h => h) (by rfl) ?_ ?_
  rotate_left
  · intro W hW; go_simp; try with_reducible rfl
  simp only [Act.put, List.setIfInBounds_toArray, List.set_cons_zero, List.set_cons_succ]
  refine regE_take (i := 14) (v := ?_) rfl (by kernel_rfl) (by kernel_rfl) (by kernel_rfl) (fun _ _ _ h => h) (by rfl) ?_ ?_
  rotate_left
  · intro W hW; go_simp; try with_reducible rfl
  simp only [Act.put, List.setIfInBounds_toArray, List.set_cons_zero, List.set_cons_succ]
  refine regE_done (by kernel_rfl) ?_
  obtain ⟨k1, k2, k3, k4, k5, k6, k7⟩ := HK.out
  have hg0 : Blk wr0 g 105 _ := hg.below hR hg.lt
  obtain ⟨⟨x0, x1, x2, x3, x4, x5⟩, xf, _⟩ := hg0.sixR
  go_upto_region 6 with fail
  clear x0 x1 x2 x3 x4 x5 xf
  have hg1 := hg0.set_ 1 (.int .i64 (q : Int))
  simp only [List.setIfInBounds_toArray, List.set_cons_zero, List.set_cons_succ] at hg1
  have hC := (Chg.of_ext (S := (· = g)) hR).trans (Chg.set_ wr0 g 1 (.int .i64 (q : Int)) rfl)
  generalize hgw : wr0.setCell ⟨g, 1, none⟩ (.int .i64 (q : Int)) = w1 at *
  clear hgw hR hg0
  refine regE_start (by kernel_rfl) ?_
  have hR := (Ext.refl w1).drew
  generalize hgw : (w1).drew = wr0 at *
  clear hgw
  refine regE_take (i := 0) (v := ?_) rfl (by kernel_rfl) (by kernel_rfl) (by kernel_rfl) (fun _ _ _ h => h) (by rfl) ?_ ?_
  rotate_left
  · intro W hW; go_simp; try with_reducible rfl
  simp only [Act.put, List.setIfInBounds_toArray, List.set_cons_zero, List.set_cons_succ]
  refine regE_take (i := 1) (v := ?_) rfl (by kernel_rfl) (by kernel_rfl) (by kernel_rfl) (fun _ _ _ h => h) (by rfl) ?_ ?_
  rotate_left
  · intro W hW; go_simp; try with_reducible rfl
  simp only [Act.put, List.setIfInBounds_toArray, List.set_cons_zero, List.set_cons_succ]
  refine regE_take (i := 2) (v := ?_) rfl (by kernel_rfl) (by kernel_rfl) (by kernel_rfl) (fun _ _ _ h => h) (by rfl) ?_ ?_
  rotate_left
  · intro W hW; go_simp; try with_reducible rfl
  simp only [Act.put, List.setIfInBounds_toArray, List.set_cons_zero, List.set_cons_succ]
  refine regE_take (i := 3) (v := ?_) rfl (by kernel_rfl) (by kernel_rfl) (by kernel_rfl) (fun _ _ _ h => h) (by rfl) ?_ ?_
  rotate_left
  · intro W hW; go_simp; try with_reducible rfl
  simp only [Act.put, List.setIfInBounds_toArray, List.set_cons_zero, List.set_cons_succ]
  refine regE_take (i := 4) (v := ?_) rfl (by kernel_rfl) (by kernel_rfl) (by kernel_rfl) (fun _ _ _ h => h) (by rfl) ?_ ?_
  rotate_left
  · intro W hW; go_simp; try with_reducible rfl
  simp only [Act.put, List.setIfInBounds_toArray, List.set_cons_zero, List.set_cons_succ]
  refine regE_take (i := 5) (v := ?_) rfl (by kernel_rfl) (by kernel_rfl) (by kernel_rfl) (fun _ _ _ h => h) (by rfl) ?_ ?_
  rotate_left
  · intro W hW; obtain ⟨⟨x0, x1, x2, x3, x4, x5⟩, _, _⟩ := (hg1.below hW hg1.lt).sixR; go_simp; try with_reducible rfl
  simp only [Act.put, List.setIfInBounds_toArray, List.set_cons_zero, List.set_cons_succ]
  refine regE_take (i := 6) (v := ?_) rfl (by kernel_rfl) (by kernel_rfl) (by kernel_rfl) (fun _ _ _ h => h) (by rfl) ?_ ?_
  rotate_left
  · intro W hW; go_simp; try with_reducible rfl
  simp only [Act.put, List.setIfInBounds_toArray, List.set_cons_zero, List.set_cons_succ]
  refine regE_take (i := 7) (v := ?_) rfl (by kernel_rfl) (by kernel_rfl) (by kernel_rfl) (fun _ _ _ h => h) (by rfl) ?_ ?_
  rotate_left
  · intro W hW; go_simp; try with_reducible rfl
  simp only [Act.put, List.setIfInBounds_toArray, List.set_cons_zero, List.set_cons_succ]
  refine regE_take (i := 8) (v := ?_) rfl (by kernel_rfl) (by kernel_rfl) (by kernel_rfl) (fun _ _ _ h => h) (by rfl) ?_ ?_
  rotate_left
  · intro W hW; go_simp; try with_reducible rfl
  simp only [Act.put, List.setIfInBounds_toArray, List.set_cons_zero, List.set_cons_succ]
  refine regE_take (i := 9) (v := ?_) rfl (by kernel_rfl) (by kernel_rfl) (by kernel_rfl) (fun _ _ _ h => h) (by rfl) ?_ ?_
  rotate_left
  · intro W hW; go_simp; try with_reducible rfl
  simp only [Act.put, List.setIfInBounds_toArray, List.set_cons_zero, List.set_cons_succ]
  refine regE_done (by kernel_rfl) ?_
  go_wp2_with fail
  go_ret2
  exact ⟨rfl, hg1.below hR hg1.lt, hC.trans (Chg.of_ext hR)⟩
set_option maxRecDepth 100000 in
set_option maxHeartbeats 2000000 in
theorem take_no (g : Nat) (A : Option Addr) (n c : Nat) (b : List UInt8) (at_ k : Nat) (s : Bool) (p l ky : Int) (w : World) (hb : Bytes w A n c b) (hg : Blk w g 105 #[.slice A n c, .int .i64 (at_ : Int), .bool s, .int .i64 p, .int .i64 l, .int .i64 ky]) (hk1 : 1 ≤ k) (hk2 : k ≤ 2) (hat : n < at_ + k) (hat2 : at_ ≤ 1000000) :
    Calls Try.prog 77 #[.pointer (some ⟨g, 0, none⟩), .int .i64 (k : Int)] w fun e w' => e = .returned (.tuple #[.int .i64 0, .int .i64 (-1)]) ∧ Blk w' g 105 #[.slice A n c, .int .i64 (at_ : Int), .bool true, .int .i64 p, .int .i64 l, .int .i64 ky] ∧ Chg (· = g) w w' := by
  have hE : getE b.length at_ k = 2 := by unfold getE; rw [hb.len, if_neg (by omega), if_pos (by omega)]
  have hV : getV b at_ k = 0 := by unfold getV; rw [hE]; rfl
  have S := hide (fun W h => get_B A n c b (at_ : Int) (k : Int) W h 0 hV 2 hE)
  clear hE hV
  go_enter Try.func77, Try.ntmps77
  go_upto_region 1 with fail
  refine regE_start (by kernel_rfl) ?_
  have hR := (Ext.refl w).drew
  generalize hgw : (w).drew = wr0 at *
  clear hgw
  refine regE_take (i := 0) (v := ?_) rfl (by kernel_rfl) (by kernel_rfl) (by kernel_rfl) (fun _ _ _ h => h) (by rfl) ?_ ?_
  rotate_left
  · intro W hW; go_simp; try with_reducible rfl
  simp only [Act.put, List.setIfInBounds_toArray, List.set_cons_zero, List.set_cons_succ]
  refine regE_take (i := 1) (v := ?_) rfl (by kernel_rfl) (by kernel_rfl) (by kernel_rfl) (fun _ _ _ h => h) (by rfl) ?_ ?_
  rotate_left
  · intro W hW; go_simp; try with_reducible rfl
  simp only [Act.put, List.setIfInBounds_toArray, List.set_cons_zero, List.set_cons_succ]
  refine regE_take (i := 2) (v := ?_) rfl (by kernel_rfl) (by kernel_rfl) (by kernel_rfl) (fun _ _ _ h => h) (by rfl) ?_ ?_
  rotate_left
  · intro W hW; go_simp; try with_reducible rfl
  simp only [Act.put, List.setIfInBounds_toArray, List.set_cons_zero, List.set_cons_succ]
  refine regE_take (i := 3) (v := ?_) rfl (by kernel_rfl) (by kernel_rfl) (by kernel_rfl) (fun _ _ _ h => h) (by rfl) ?_ ?_
  rotate_left
  · intro W hW; obtain ⟨⟨x0, x1, x2, x3, x4, x5⟩, _, _⟩ := (hg.below hW hg.lt).sixR; go_simp; try with_reducible rfl
  simp only [Act.put, List.setIfInBounds_toArray, List.set_cons_zero, List.set_cons_succ]
  refine regE_take (i := 4) (v := ?_) rfl (by kernel_rfl) (by kernel_rfl) (by kernel_rfl) (fun _ _ _ h => h) (by rfl) ?_ ?_
  rotate_left
  · intro W hW; go_simp; try with_reducible rfl
  simp only [Act.put, List.setIfInBounds_toArray, List.set_cons_zero, List.set_cons_succ]
  refine regE_take (i := 5) (v := ?_) rfl (by kernel_rfl) (by kernel_rfl) (by kernel_rfl) (fun _ _ _ h => h) (by rfl) ?_ ?_
  rotate_left
  · intro W hW; go_simp; try with_reducible rfl
  simp only [Act.put, List.setIfInBounds_toArray, List.set_cons_zero, List.set_cons_succ]
  refine regE_take (i := 6) (v := ?_) rfl (by kernel_rfl) (by kernel_rfl) (by kernel_rfl) (fun _ _ _ h => h) (by rfl) ?_ ?_
  rotate_left
  · intro W hW; go_simp; try with_reducible rfl
  simp only [Act.put, List.setIfInBounds_toArray, List.set_cons_zero, List.set_cons_succ]
  refine regE_take (i := 7) (v := ?_) rfl (by kernel_rfl) (by kernel_rfl) (by kernel_rfl) (fun _ _ _ h => h) (by rfl) ?_ ?_
  rotate_left
  · intro W hW; obtain ⟨⟨x0, x1, x2, x3, x4, x5⟩, _, _⟩ := (hg.below hW hg.lt).sixR; go_simp; try with_reducible rfl
  simp only [Act.put, List.setIfInBounds_toArray, List.set_cons_zero, List.set_cons_succ]
  refine regE_take (i := 8) (v := ?_) rfl (by kernel_rfl) (by kernel_rfl) (by kernel_rfl) (fun _ _ _ h => h) (by rfl) ?_ ?_
  rotate_left
  · intro W hW; go_simp; try with_reducible rfl
  simp only [Act.put, List.setIfInBounds_toArray, List.set_cons_zero, List.set_cons_succ]
  refine regE_do (i := 9) rfl (by kernel_rfl) (fun K hK => ?_)
  rw [if_pos (by rfl)]
  go_simp
  refine (S.out _ (hb.ext hR)).mono ?_
  rintro e w' ⟨rfl, rfl⟩
  refine hK.out _ _ hR ?_
  clear hK K
  try simp only [Act.put, List.setIfInBounds_toArray, List.set_cons_zero, List.set_cons_succ]
  refine regE_take (i := 10) (v := ?_) rfl (by kernel_rfl) (by kernel_rfl) (by kernel_rfl) (fun _ _ _ h => h) (by rfl) ?_ ?_
  rotate_left
  · intro W hW; go_simp; try with_reducible rfl
  simp only [Act.put, List.setIfInBounds_toArray, List.set_cons_zero, List.set_cons_succ]
  refine regE_take (i := 11) (v := ?_) rfl (by kernel_rfl) (by kernel_rfl) (by kernel_rfl) (fun _ _ _ h => h) (by rfl) ?_ ?_
  rotate_left
  · intro W hW; go_simp; try with_reducible rfl
  simp only [Act.put, List.setIfInBounds_toArray, List.set_cons_zero, List.set_cons_succ]
  refine regE_take (i := 12) (v := ?_) rfl (by kernel_rfl) (by kernel_rfl) (by kernel_rfl) (fun _ _ _ h => h) (by rfl) ?_ ?_
  rotate_left
  · intro W hW; go_simp; try with_reducible rfl
  simp only [Act.put, List.setIfInBounds_toArray, List.set_cons_zero, List.set_cons_succ]
  refine regE_take (i := 13) (v := ?_) rfl (by kernel_rfl) (by kernel_rfl) (by kernel_rfl) (fun _ _ _ h => h) (by rfl) ?_ ?_
  rotate_left
  · intro W hW; go_simp; try with_reducible rfl
  simp only [Act.put, List.setIfInBounds_toArray, List.set_cons_zero, List.set_cons_succ]
  refine regE_take (i := 14) (v := ?_) rfl (by kernel_rfl) (by kernel_rfl) (by kernel_rfl) (fun _ _ _ h => h) (by rfl) ?_ ?_
  rotate_left
  · intro W hW; go_simp; try with_reducible rfl
  simp only [Act.put, List.setIfInBounds_toArray, List.set_cons_zero, List.set_cons_succ]
  refine regE_done (by kernel_rfl) ?_
  have hg0 : Blk wr0 g 105 _ := hg.below hR hg.lt
  obtain ⟨⟨x0, x1, x2, x3, x4, x5⟩, xf, _⟩ := hg0.sixR
  have hg1 := hg0.set_ 2 (.bool true)
  simp only [List.setIfInBounds_toArray, List.set_cons_zero, List.set_cons_succ] at hg1
  go_wp2_with fail
  go_ret2
  exact ⟨rfl, hg1, (Chg.of_ext hR).trans (Chg.set_ wr0 g 2 (.bool true) rfl)⟩
end Go.Proofs.Ytcdacnhggpfnaaa

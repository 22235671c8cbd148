/- The document's Write of layer 23: the walk. -/
import Derived.Test.YtcdacnhggpfnaaaVp8X1
import Derived.Test.YtcdacnhggpfnaaaVp8W
import Derived.Test.YtcdacnhggpfnaaaStr
import Derived.Test.YtcdacnhggpfnaaaPlainVp8C
namespace Go.Proofs.Ytcdacnhggpfnaaa
open Go.RowKit
def pz (b : Bool) (n : Int) : Int := if b = true then n else 0
theorem pz_nat (b : Bool) (n : Nat) : pz b (n : Int) = ((v8b b n : Nat) : Int) := by unfold pz v8b; split <;> rfl
theorem rfput_z (b : Bool) (n : Int) (w : World) : Calls Try.prog 50 #[.bool b, .int .i64 n] w fun e w' => e = .returned (.int .i64 (pz b n)) ∧ w = w' := rfput_any b n w
theorem i64w (z : Int) (h1 : -1000000 ≤ z) (h2 : z ≤ 1000000) : IntKind.i64.wrap z = z := by rw [IntKind.wrap_i64]; omega
set_option maxRecDepth 100000 in
set_option maxHeartbeats 4000000 in
theorem rfwrite_O (d : V8) (w : World) (hr : v8Right d = true) (y : List UInt8) (hy : v8Bytes d = y) (N : Nat) (hN : y.length = N) : Calls Try.prog 20 #[.agg #[.bool d.alone, .bool d.start, .int .i64 d.part, .bool d.hasPic, .bool d.wide, .int .i64 d.pic, .bool d.hasLevel, .int .i64 d.level, .bool d.hasTid, .bool d.hasKey, .int .i64 d.tid, .bool d.sync, .int .i64 d.key]] w fun e w' => ∃ A' c', e = .returned (.slice A' N c') ∧ w'.ownsRow w.heap.size 5 1 (.slice A' N c') N (y.map Bv) ∧ Ext w w' := by
  obtain ⟨r1, r2, r3, r4, r5, r6⟩ := v8Right_iff hr
  have hbx := Blk.new w 45 #[.bool d.alone, .bool d.start, .int .i64 d.part, .bool d.hasPic, .bool d.wide, .int .i64 d.pic, .bool d.hasLevel, .int .i64 d.level, .bool d.hasTid, .bool d.hasKey, .int .i64 d.tid, .bool d.sync, .int .i64 d.key]
  have hE := (Ext.refl w).alloc (.cells #[.bool d.alone, .bool d.start, .int .i64 d.part, .bool d.hasPic, .bool d.wide, .int .i64 d.pic, .bool d.hasLevel, .int .i64 d.level, .bool d.hasTid, .bool d.hasKey, .int .i64 d.tid, .bool d.sync, .int .i64 d.key] 45)
  have hH := v8Has_lt d
  obtain ⟨Hs, hHs⟩ : ∃ x, v8Has d = x := ⟨_, rfl⟩
  have b1 := v8b_le d.hasPic 128
  have b2 := v8b_le d.hasLevel 64
  have b3 := v8b_le d.hasTid 32
  have b4 := v8b_le d.hasKey 16
  have hsum : v8b d.hasPic 128 + v8b d.hasLevel 64 + v8b d.hasTid 32 + v8b d.hasKey 16 = Hs := hHs
  rw [hHs] at hH
  have e1 : IntKind.i64.wrap (pz d.hasPic 128 + pz d.hasLevel 64) = ((v8b d.hasPic 128 + v8b d.hasLevel 64 : Nat) : Int) := by
    rw [show pz d.hasPic 128 = _ from pz_nat d.hasPic 128, show pz d.hasLevel 64 = _ from pz_nat d.hasLevel 64, i64w _ (by omega) (by omega)]; omega
  have e2 : IntKind.i64.wrap (((v8b d.hasPic 128 + v8b d.hasLevel 64 : Nat) : Int) + pz d.hasTid 32) = ((v8b d.hasPic 128 + v8b d.hasLevel 64 + v8b d.hasTid 32 : Nat) : Int) := by
    rw [show pz d.hasTid 32 = _ from pz_nat d.hasTid 32, i64w _ (by omega) (by omega)]; omega
  have e3 : IntKind.i64.wrap (((v8b d.hasPic 128 + v8b d.hasLevel 64 + v8b d.hasTid 32 : Nat) : Int) + pz d.hasKey 16) = (Hs : Int) := by
    rw [show pz d.hasKey 16 = _ from pz_nat d.hasKey 16, i64w _ (by omega) (by omega)]; omega
  obtain ⟨q12, hq12⟩ : ∃ q, v8b d.hasPic 128 + v8b d.hasLevel 64 = q := ⟨_, rfl⟩
  rw [hq12] at e1 e2 e3
  obtain ⟨q123, hq123⟩ : ∃ q, q12 + v8b d.hasTid 32 = q := ⟨_, rfl⟩
  rw [hq123] at e2 e3
  have HR := hide (And.intro r1 (And.intro r2 (And.intro r3 (And.intro r4 (And.intro r5 r6)))))
  clear hr r1 r2 r3 r4 r5 r6 hq12 hq123 b1 b2 b3 b4 hsum
  go_enter Try.func20, Try.ntmps20
  go_upto_region 1 with fail
  generalize hgw : w.alloc (.cells #[.bool d.alone, .bool d.start, .int .i64 d.part, .bool d.hasPic, .bool d.wide, .int .i64 d.pic, .bool d.hasLevel, .int .i64 d.level, .bool d.hasTid, .bool d.hasKey, .int .i64 d.tid, .bool d.sync, .int .i64 d.key] 45) = w1 at *
  clear hgw
  refine regE_start (by kernel_rfl) ?_
  have hR := (Ext.refl w1).drew
  generalize hgw : (w1).drew = wr0 at *
  clear hgw
  refine regE_take (i := 0) (v := ?_) rfl (by kernel_rfl) (by kernel_rfl) (by kernel_rfl) (fun _ _ _ h => h) (by rfl) ?_ ?_
  rotate_left
  · intro W hW; go_simp; try with_reducible rfl
  simp only [Act.put, List.setIfInBounds_toArray, List.set_cons_zero, List.set_cons_succ]
  refine regE_take (i := 1) (v := ?_) rfl (by kernel_rfl) (by kernel_rfl) (by kernel_rfl) (fun _ _ _ h => h) (by rfl) ?_ ?_
  rotate_left
  · intro W hW; obtain ⟨⟨x0, x1, x2, x3, x4, x5, x6, x7, x8, x9, x10, x11, x12⟩, _, _⟩ := (hbx.below hW hbx.lt).thirteen; go_simp; try with_reducible rfl
  simp only [Act.put, List.setIfInBounds_toArray, List.set_cons_zero, List.set_cons_succ]
  refine regE_take (i := 3) (v := ?_) rfl (by kernel_rfl) (by kernel_rfl) (by kernel_rfl) (fun _ _ _ h => h) (by rfl) ?_ ?_
  rotate_left
  · intro W hW; go_simp; try with_reducible rfl
  simp only [Act.put, List.setIfInBounds_toArray, List.set_cons_zero, List.set_cons_succ]
  refine regE_take (i := 4) (v := ?_) rfl (by kernel_rfl) (by kernel_rfl) (by kernel_rfl) (fun _ _ _ h => h) (by rfl) ?_ ?_
  rotate_left
  · intro W hW; obtain ⟨⟨x0, x1, x2, x3, x4, x5, x6, x7, x8, x9, x10, x11, x12⟩, _, _⟩ := (hbx.below hW hbx.lt).thirteen; go_simp; try with_reducible rfl
  simp only [Act.put, List.setIfInBounds_toArray, List.set_cons_zero, List.set_cons_succ]
  refine regE_take (i := 7) (v := ?_) rfl (by kernel_rfl) (by kernel_rfl) (by kernel_rfl) (fun _ _ _ h => h) (by rfl) ?_ ?_
  rotate_left
  · intro W hW; go_simp; try with_reducible rfl
  simp only [Act.put, List.setIfInBounds_toArray, List.set_cons_zero, List.set_cons_succ]
  refine regE_take (i := 8) (v := ?_) rfl (by kernel_rfl) (by kernel_rfl) (by kernel_rfl) (fun _ _ _ h => h) (by rfl) ?_ ?_
  rotate_left
  · intro W hW; obtain ⟨⟨x0, x1, x2, x3, x4, x5, x6, x7, x8, x9, x10, x11, x12⟩, _, _⟩ := (hbx.below hW hbx.lt).thirteen; go_simp; try with_reducible rfl
  simp only [Act.put, List.setIfInBounds_toArray, List.set_cons_zero, List.set_cons_succ]
  refine regE_take (i := 11) (v := ?_) rfl (by kernel_rfl) (by kernel_rfl) (by kernel_rfl) (fun _ _ _ h => h) (by rfl) ?_ ?_
  rotate_left
  · intro W hW; go_simp; try with_reducible rfl
  simp only [Act.put, List.setIfInBounds_toArray, List.set_cons_zero, List.set_cons_succ]
  refine regE_take (i := 12) (v := ?_) rfl (by kernel_rfl) (by kernel_rfl) (by kernel_rfl) (fun _ _ _ h => h) (by rfl) ?_ ?_
  rotate_left
  · intro W hW; obtain ⟨⟨x0, x1, x2, x3, x4, x5, x6, x7, x8, x9, x10, x11, x12⟩, _, _⟩ := (hbx.below hW hbx.lt).thirteen; go_simp; try with_reducible rfl
  simp only [Act.put, List.setIfInBounds_toArray, List.set_cons_zero, List.set_cons_succ]
  refine regE_do (i := 2) rfl (by kernel_rfl) (fun K hK => ?_)
  rw [if_pos (by rfl)]
  go_simp
  refine (rfput_z _ _ _).mono ?_
  rintro e w' ⟨rfl, rfl⟩
  refine hK.out _ _ hR ?_
  clear hK K
  try simp only [Act.put, List.setIfInBounds_toArray, List.set_cons_zero, List.set_cons_succ]
  refine regE_do (i := 5) rfl (by kernel_rfl) (fun K hK => ?_)
  rw [if_pos (by rfl)]
  go_simp
  refine (rfput_z _ _ _).mono ?_
  rintro e w' ⟨rfl, rfl⟩
  refine hK.out _ _ hR ?_
  clear hK K
  try simp only [Act.put, List.setIfInBounds_toArray, List.set_cons_zero, List.set_cons_succ]
  refine regE_take (i := 6) (v := ?_) rfl (by kernel_rfl) (by kernel_rfl) (by kernel_rfl) (fun _ _ _ h => h) (by rfl) ?_ ?_
  rotate_left
  · intro W hW; go_simp; try with_reducible rfl
  simp only [Act.put, List.setIfInBounds_toArray, List.set_cons_zero, List.set_cons_succ]
  refine regE_do (i := 9) rfl (by kernel_rfl) (fun K hK => ?_)
  rw [if_pos (by rfl)]
  go_simp
  refine (rfput_z _ _ _).mono ?_
  rintro e w' ⟨rfl, rfl⟩
  refine hK.out _ _ hR ?_
  clear hK K
  try simp only [Act.put, List.setIfInBounds_toArray, List.set_cons_zero, List.set_cons_succ]
  refine regE_take (i := 10) (v := ?_) rfl (by kernel_rfl) (by kernel_rfl) (by kernel_rfl) (fun _ _ _ h => h) (by rfl) ?_ ?_
  rotate_left
  · intro W hW; go_simp; try with_reducible rfl
  simp only [Act.put, List.setIfInBounds_toArray, List.set_cons_zero, List.set_cons_succ]
  refine regE_do (i := 13) rfl (by kernel_rfl) (fun K hK => ?_)
  rw [if_pos (by rfl)]
  go_simp
  refine (rfput_z _ _ _).mono ?_
  rintro e w' ⟨rfl, rfl⟩
  refine hK.out _ _ hR ?_
  clear hK K
  try simp only [Act.put, List.setIfInBounds_toArray, List.set_cons_zero, List.set_cons_succ]
  refine regE_take (i := 14) (v := ?_) rfl (by kernel_rfl) (by kernel_rfl) (by kernel_rfl) (fun _ _ _ h => h) (by rfl) ?_ ?_
  rotate_left
  · intro W hW; go_simp; try with_reducible rfl
  simp only [Act.put, List.setIfInBounds_toArray, List.set_cons_zero, List.set_cons_succ]
  refine regE_take (i := 15) (v := ?_) rfl (by kernel_rfl) (by kernel_rfl) (by kernel_rfl) (fun _ _ _ h => h) (by rfl) ?_ ?_
  rotate_left
  · intro W hW; go_simp; try with_reducible rfl
  simp only [Act.put, List.setIfInBounds_toArray, List.set_cons_zero, List.set_cons_succ]
  refine regE_done (by kernel_rfl) ?_
  replace hbx := hbx.below hR hbx.lt
  replace hE := hE.trans hR
  generalize wr0 = w2 at *
  clear hR e1 e2 e3
  obtain ⟨rp1, rp2⟩ := HR.out.1
  have b1 := v8b_le (decide (0 < Hs)) 128
  have b2 := v8b_le d.alone 32
  have b3 := v8b_le d.start 16
  have e1 : IntKind.i64.wrap (pz (decide (0 < Hs)) 128 + pz d.alone 32) = ((v8b (decide (0 < Hs)) 128 + v8b d.alone 32 : Nat) : Int) := by
    rw [show pz (decide (0 < Hs)) 128 = _ from pz_nat (decide (0 < Hs)) 128, show pz d.alone 32 = _ from pz_nat d.alone 32, i64w _ (by omega) (by omega)]; omega
  have e2 : IntKind.i64.wrap (((v8b (decide (0 < Hs)) 128 + v8b d.alone 32 : Nat) : Int) + pz d.start 16) = ((v8b (decide (0 < Hs)) 128 + v8b d.alone 32 + v8b d.start 16 : Nat) : Int) := by
    rw [show pz d.start 16 = _ from pz_nat d.start 16, i64w _ (by omega) (by omega)]; omega
  obtain ⟨F, hF⟩ : ∃ x, v8b (decide (0 < Hs)) 128 + v8b d.alone 32 + v8b d.start 16 + d.part.toNat = x := ⟨_, rfl⟩
  have hF256 : F < 256 := by omega
  have e3 : IntKind.i64.wrap (((v8b (decide (0 < Hs)) 128 + v8b d.alone 32 + v8b d.start 16 : Nat) : Int) + d.part) = (F : Int) := by
    rw [i64w _ (by omega) (by omega)]; omega
  obtain ⟨q1, hq1⟩ : ∃ q, v8b (decide (0 < Hs)) 128 + v8b d.alone 32 = q := ⟨_, rfl⟩
  rw [hq1] at e1 e2 e3 hF
  obtain ⟨q2, hq2⟩ : ∃ q, q1 + v8b d.start 16 = q := ⟨_, rfl⟩
  rw [hq2] at e2 e3 hF
  have e4 : (F : Int) % 256 = (F : Int) := by omega
  have e5 : IntKind.u8.wrap (F : Int) = (F : Int) := by rw [IntKind.wrap_u8]; omega
  have HF := hide (And.intro hq1 (And.intro hq2 hF))
  clear b1 b2 b3 hq1 hq2 hF rp1 rp2
  go_upto_region 2 with fail
  refine regE_start (by kernel_rfl) ?_
  have hR := (Ext.refl w2).drew
  generalize hgw : (w2).drew = wr0 at *
  clear hgw
  refine regE_take (i := 0) (v := ?_) rfl (by kernel_rfl) (by kernel_rfl) (by kernel_rfl) (fun _ _ _ h => h) (by rfl) ?_ ?_
  rotate_left
  · intro W hW; go_simp; try with_reducible rfl
  simp only [Act.put, List.setIfInBounds_toArray, List.set_cons_zero, List.set_cons_succ]
  refine regE_take (i := 1) (v := ?_) rfl (by kernel_rfl) (by kernel_rfl) (by kernel_rfl) (fun _ _ _ h => h) (by rfl) ?_ ?_
  rotate_left
  · intro W hW; go_simp; try with_reducible rfl
  simp only [Act.put, List.setIfInBounds_toArray, List.set_cons_zero, List.set_cons_succ]
  refine regE_take (i := 3) (v := ?_) rfl (by kernel_rfl) (by kernel_rfl) (by kernel_rfl) (fun _ _ _ h => h) (by rfl) ?_ ?_
  rotate_left
  · intro W hW; go_simp; try with_reducible rfl
  simp only [Act.put, List.setIfInBounds_toArray, List.set_cons_zero, List.set_cons_succ]
  refine regE_take (i := 4) (v := ?_) rfl (by kernel_rfl) (by kernel_rfl) (by kernel_rfl) (fun _ _ _ h => h) (by rfl) ?_ ?_
  rotate_left
  · intro W hW; obtain ⟨⟨x0, x1, x2, x3, x4, x5, x6, x7, x8, x9, x10, x11, x12⟩, _, _⟩ := (hbx.below hW hbx.lt).thirteen; go_simp; try with_reducible rfl
  simp only [Act.put, List.setIfInBounds_toArray, List.set_cons_zero, List.set_cons_succ]
  refine regE_take (i := 7) (v := ?_) rfl (by kernel_rfl) (by kernel_rfl) (by kernel_rfl) (fun _ _ _ h => h) (by rfl) ?_ ?_
  rotate_left
  · intro W hW; go_simp; try with_reducible rfl
  simp only [Act.put, List.setIfInBounds_toArray, List.set_cons_zero, List.set_cons_succ]
  refine regE_take (i := 8) (v := ?_) rfl (by kernel_rfl) (by kernel_rfl) (by kernel_rfl) (fun _ _ _ h => h) (by rfl) ?_ ?_
  rotate_left
  · intro W hW; obtain ⟨⟨x0, x1, x2, x3, x4, x5, x6, x7, x8, x9, x10, x11, x12⟩, _, _⟩ := (hbx.below hW hbx.lt).thirteen; go_simp; try with_reducible rfl
  simp only [Act.put, List.setIfInBounds_toArray, List.set_cons_zero, List.set_cons_succ]
  refine regE_take (i := 11) (v := ?_) rfl (by kernel_rfl) (by kernel_rfl) (by kernel_rfl) (fun _ _ _ h => h) (by rfl) ?_ ?_
  rotate_left
  · intro W hW; go_simp; try with_reducible rfl
  simp only [Act.put, List.setIfInBounds_toArray, List.set_cons_zero, List.set_cons_succ]
  refine regE_take (i := 12) (v := ?_) rfl (by kernel_rfl) (by kernel_rfl) (by kernel_rfl) (fun _ _ _ h => h) (by rfl) ?_ ?_
  rotate_left
  · intro W hW; obtain ⟨⟨x0, x1, x2, x3, x4, x5, x6, x7, x8, x9, x10, x11, x12⟩, _, _⟩ := (hbx.below hW hbx.lt).thirteen; go_simp; try with_reducible rfl
  simp only [Act.put, List.setIfInBounds_toArray, List.set_cons_zero, List.set_cons_succ]
  refine regE_do (i := 2) rfl (by kernel_rfl) (fun K hK => ?_)
  rw [if_pos (by rfl)]
  go_simp
  refine (rfput_z _ _ _).mono ?_
  rintro e w' ⟨rfl, rfl⟩
  refine hK.out _ _ hR ?_
  clear hK K
  try simp only [Act.put, List.setIfInBounds_toArray, List.set_cons_zero, List.set_cons_succ]
  refine regE_do (i := 5) rfl (by kernel_rfl) (fun K hK => ?_)
  rw [if_pos (by rfl)]
  go_simp
  refine (rfput_z _ _ _).mono ?_
  rintro e w' ⟨rfl, rfl⟩
  refine hK.out _ _ hR ?_
  clear hK K
  try simp only [Act.put, List.setIfInBounds_toArray, List.set_cons_zero, List.set_cons_succ]
  refine regE_take (i := 6) (v := ?_) rfl (by kernel_rfl) (by kernel_rfl) (by kernel_rfl) (fun _ _ _ h => h) (by rfl) ?_ ?_
  rotate_left
  · intro W hW; go_simp; try with_reducible rfl
  simp only [Act.put, List.setIfInBounds_toArray, List.set_cons_zero, List.set_cons_succ]
  refine regE_do (i := 9) rfl (by kernel_rfl) (fun K hK => ?_)
  rw [if_pos (by rfl)]
  go_simp
  refine (rfput_z _ _ _).mono ?_
  rintro e w' ⟨rfl, rfl⟩
  refine hK.out _ _ hR ?_
  clear hK K
  try simp only [Act.put, List.setIfInBounds_toArray, List.set_cons_zero, List.set_cons_succ]
  refine regE_take (i := 10) (v := ?_) rfl (by kernel_rfl) (by kernel_rfl) (by kernel_rfl) (fun _ _ _ h => h) (by rfl) ?_ ?_
  rotate_left
  · intro W hW; go_simp; try with_reducible rfl
  simp only [Act.put, List.setIfInBounds_toArray, List.set_cons_zero, List.set_cons_succ]
  refine regE_take (i := 13) (v := ?_) rfl (by kernel_rfl) (by kernel_rfl) (by kernel_rfl) (fun _ _ _ h => h) (by rfl) ?_ ?_
  rotate_left
  · intro W hW; go_simp; try with_reducible rfl
  simp only [Act.put, List.setIfInBounds_toArray, List.set_cons_zero, List.set_cons_succ]
  refine regE_take (i := 14) (v := ?_) rfl (by kernel_rfl) (by kernel_rfl) (by kernel_rfl) (fun _ _ _ h => h) (by rfl) ?_ ?_
  rotate_left
  · intro W hW; go_simp; try with_reducible rfl
  simp only [Act.put, List.setIfInBounds_toArray, List.set_cons_zero, List.set_cons_succ]
  refine regE_do (i := 15) rfl (by kernel_rfl) (fun K hK => ?_)
  rw [if_pos (by rfl)]
  go_simp
  (first | rw [e4] | rw [e5] | skip)
  have hO := own_oneV wr0 F hF256
  have hszW : w2.heap.size ≤ wr0.heap.size := hR.size
  refine hK.out _ _ (hR.alloc _) ?_
  clear hK K
  replace hR := hR.alloc (.cells #[.int .u8 (F : Int)] 5)
  generalize hgw : wr0.alloc (.cells #[.int .u8 (F : Int)] 5) = wr1 at *
  clear hgw
  try simp only [Act.put, List.setIfInBounds_toArray, List.set_cons_zero, List.set_cons_succ]
  refine regE_take (i := 16) (v := ?_) rfl (by kernel_rfl) (by kernel_rfl) (by kernel_rfl) (fun _ _ _ h => h) (by rfl) ?_ ?_
  rotate_left
  · intro W hW; go_simp; try with_reducible rfl
  simp only [Act.put, List.setIfInBounds_toArray, List.set_cons_zero, List.set_cons_succ]
  refine regE_done (by kernel_rfl) ?_
  replace hO := own_more hO hszW
  have hX := hR
  have hbx0 := hbx
  replace hbx := hbx.below hR hbx.lt
  generalize wr0.heap.size = gb at *
  generalize wr1 = w3 at *
  clear hR hszW e1 e2 e3 e4 e5
  obtain ⟨⟨x0, x1, x2, x3, x4, x5, x6, x7, x8, x9, x10, x11, x12⟩, _, _⟩ := hbx.thirteen
  have hFF : v8First d = F := by
    unfold v8First
    rw [hHs]
    obtain ⟨h1, h2, h3⟩ := HF.out
    rw [h1, h2, h3]
  clear HF
  by_cases h0 : Hs = 0
  · subst h0
    obtain rfl : [UInt8.ofNat F] = y := by rw [← hy]; unfold v8Bytes; rw [if_pos hHs, hFF]
    obtain rfl : 1 = N := hN
    clear hy hHs hFF
    go_wp2_with fail
    go_ret
    exact ⟨_, _, rfl, own_more hO hE.size, hE.trans hX⟩
  · have hne : ((Hs : Int) == 0) = false := by rw [beq_eq_false_iff_ne]; omega
    have hb : [UInt8.ofNat F, UInt8.ofNat Hs] ++ v8Pic d ++ v8Lev d ++ v8Key d = y := by rw [← hy]; unfold v8Bytes; rw [if_neg (by rw [hHs]; exact h0), hFF, hHs]
    have HB := hide (And.intro hb hN)
    have hHm : (Hs : Int) % 256 = (Hs : Int) := by omega
    clear hb hFF hHs hy hN
    go_upto_region 6 with (at_builtin; (refine wpList_appB w2 _ _ rfl rfl (hX.alloc _) _ 1 1 _ rfl (own_ext hO ((Ext.refl _).alloc _)) _ 1 1 [UInt8.ofNat Hs] rfl (snoc_byteV _ _ (UInt8.ofNat Hs) (by rw [UInt8.toNat_ofNat']; omega)) (by omega) ?_); intro A5 c5 w5 hO5 hE5)
    rw [show ([UInt8.ofNat F] ++ [UInt8.ofNat Hs] : List UInt8) = [UInt8.ofNat F, UInt8.ofNat Hs] from rfl] at hO5
    clear x0 x1 x2 x3 x4 x5 x6 x7 x8 x9 x10 x11 x12
    clear hO hX hHm
    replace hbx := hbx0.below hE5 hbx0.lt
    obtain ⟨a, s, p, hp, wi, pc, hl, lv, ht, hk, ti, sy, ky⟩ := d
    dsimp only at *
    obtain ⟨P1, hP1⟩ : ∃ x, v8Pic ⟨a, s, p, hp, wi, pc, hl, lv, ht, hk, ti, sy, ky⟩ = x := ⟨_, rfl⟩
    obtain ⟨P2, hP2⟩ : ∃ x, v8Lev ⟨a, s, p, hp, wi, pc, hl, lv, ht, hk, ti, sy, ky⟩ = x := ⟨_, rfl⟩
    obtain ⟨P3, hP3⟩ : ∃ x, v8Key ⟨a, s, p, hp, wi, pc, hl, lv, ht, hk, ti, sy, ky⟩ = x := ⟨_, rfl⟩
    have hB := HB.out
    rw [hP1, hP2, hP3] at hB
    have HB := hide hB
    unfold v8Pic at hP1
    unfold v8Lev at hP2
    unfold v8Key at hP3
    have hr := HR.out
    unfold v8W at hr
    dsimp only at hP1 hP2 hP3 hr
    have HP1 := hide (And.intro hr.2.1 hP1)
    have HP2 := hide (And.intro hr.2.2.1 hP2)
    have HP3 := hide (And.intro hr.2.2.2.1 (And.intro hr.2.2.2.2.1 hP3))
    clear hB hP1 hP2 hP3 hr HR
    obtain ⟨⟨x0, x1, x2, x3, x4, x5, x6, x7, x8, x9, x10, x11, x12⟩, _, _⟩ := hbx.thirteen
    go_upto_if 45 with (fail)
    go_cut [4] (fun v wx => ∃ A' n' c', v = .slice A' (2 + n') c' ∧ P1.length = n' ∧ n' ≤ 2 ∧ wx.ownsRow w2.heap.size 5 1 (.slice A' (2 + n') c') (2 + n') (([UInt8.ofNat F, UInt8.ofNat Hs] ++ P1).map Bv) ∧ Ext w2 wx)
    case first => as_aux_lemma =>
      clear HP2 HP3 HB
      cases hp
      · have hwi : wi = false := (HP1.out.1.2.2 rfl).2.1
        obtain rfl : [] = P1 := by rw [← HP1.out.2, hwi]; rfl
        clear HP1 hwi
        go_wp2_with fail
        go_meet
        case rel => exact ⟨_, 0, _, rfl, rfl, by omega, by simpa using hO5, hE5⟩
      · cases wi
        · obtain rfl : [UInt8.ofNat pc.toNat] = P1 := by rw [← HP1.out.2]; rfl
          have hp := HP1.out.1
          simp only [Bool.false_eq_true, if_false] at hp
          have hpm : pc % 256 = pc := by omega
          have hpq : pc = ((UInt8.ofNat pc.toNat).toNat : Int) := by rw [UInt8.toNat_ofNat']; omega
          have HQ := hide hpq
          clear HP1 hp hpq
          go_wp2_with (at_builtin; refine wpList_appB w2 _ _ rfl rfl (hE5.alloc _) _ 2 _ _ rfl (own_ext hO5 ((Ext.refl _).alloc _)) _ 1 1 [UInt8.ofNat pc.toNat] rfl (snoc_byteV _ _ _ HQ.out) (by omega) ?_; intro A7 c7 w7 hO7 hE7)
          go_meet
          case rel => exact ⟨_, 1, _, rfl, rfl, by omega, hO7, hE7⟩
        · obtain rfl : be 2 (32768 + pc.toNat) = P1 := by rw [← HP1.out.2]; rfl
          have hp := HP1.out.1
          simp only [if_true] at hp
          obtain ⟨q, rfl⟩ := Int.eq_ofNat_of_zero_le hp.1
          have hq : q ≤ 32767 := by omega
          rw [Int.toNat_natCast] at *
          have ebe : be 2 (32768 + q) = [UInt8.ofNat (128 + q / 256), UInt8.ofNat (q % 256)] := by
            rw [be2]
            congr 1
            · congr 1; omega
            · congr 1
              apply UInt8.toNat_inj.1
              rw [UInt8.toNat_ofNat', UInt8.toNat_ofNat']; omega
          have hlit : [UInt8.ofNat (128 + q / 256), UInt8.ofNat (q % 256)].map Bv = [.int .u8 (128 + (q : Int) / 256), .int .u8 ((q : Int) % 256)] := by
            have t1 : (((128 + q / 256) % 2 ^ 8 : Nat) : Int) = 128 + (q : Int) / 256 := by omega
            have t2 : ((q % 256 % 2 ^ 8 : Nat) : Int) = (q : Int) % 256 := by omega
            simp only [List.map_cons, List.map_nil, Bv]
            rw [UInt8.toNat_ofNat', UInt8.toNat_ofNat', t1, t2]
          have m1 : (128 + (q : Int) / 256) % 256 = 128 + (q : Int) / 256 := by omega
          have m2 : (q : Int) % 256 % 256 = (q : Int) % 256 := by omega
          have HEB := hide ebe
          clear HP1 hp ebe
          go_wp2_with (at_builtin; refine wpList_appB w2 _ _ rfl rfl (hE5.alloc _) _ 2 _ _ rfl (own_ext hO5 ((Ext.refl _).alloc _)) _ 2 2 [UInt8.ofNat (128 + q / 256), UInt8.ofNat (q % 256)] rfl (Bytes.lit _ _ 2 hlit rfl (by omega)) (by omega) ?_; intro A7 c7 w7 hO7 hE7)
          go_meet
          case rel => exact ⟨_, 2, _, rfl, by rw [be_length], by omega, by rw [HEB.out]; exact hO7, hE7⟩
    case rest =>
      obtain ⟨A6, n6, c6, rfl, hn6, hn6b, hO6, hX6⟩ := hcut
      clear x0 x1 x2 x3 x4 x5 x6 x7 x8 x9 x10 x11 x12
      clear hO5 hE5 HP1
      replace hbx := hbx0.below hX6 hbx0.lt
      obtain ⟨⟨x0, x1, x2, x3, x4, x5, x6, x7, x8, x9, x10, x11, x12⟩, _, _⟩ := hbx.thirteen
      go_upto_if 67 with (fail)
      go_cut [4] (fun v wx => ∃ A' n' c', v = .slice A' (2 + n6 + n') c' ∧ P2.length = n' ∧ n' ≤ 1 ∧ wx.ownsRow w2.heap.size 5 1 (.slice A' (2 + n6 + n') c') (2 + n6 + n') (([UInt8.ofNat F, UInt8.ofNat Hs] ++ P1 ++ P2).map Bv) ∧ Ext w2 wx)
      case first => as_aux_lemma =>
        clear HP3 HB
        have hn2 : n6 ≤ 2 := hn6b
        cases hl
        · obtain rfl : [] = P2 := by rw [← HP2.out.2]; rfl
          clear HP2
          go_wp2_with fail
          go_meet
          case rel => exact ⟨_, 0, _, rfl, rfl, by omega, by simpa using hO6, hX6⟩
        · obtain rfl : [UInt8.ofNat lv.toNat] = P2 := by rw [← HP2.out.2]; rfl
          have hp := HP2.out.1
          have hpm : lv % 256 = lv := by omega
          have hpq : lv = ((UInt8.ofNat lv.toNat).toNat : Int) := by rw [UInt8.toNat_ofNat']; omega
          have HQ := hide hpq
          clear HP2 hp hpq
          go_wp2_with (at_builtin; refine wpList_appB w2 _ _ rfl rfl (hX6.alloc _) _ (2 + n6) _ _ rfl (own_ext hO6 ((Ext.refl _).alloc _)) _ 1 1 [UInt8.ofNat lv.toNat] rfl (snoc_byteV _ _ _ HQ.out) (by omega) ?_; intro A7 c7 w7 hO7 hE7)
          go_meet
          case rel => exact ⟨_, 1, _, rfl, rfl, by omega, hO7, hE7⟩
      case rest =>
        obtain ⟨A7, n7, c7, rfl, hn7, hn7b, hO7, hX7⟩ := hcut
        clear x0 x1 x2 x3 x4 x5 x6 x7 x8 x9 x10 x11 x12
        clear hO6 hX6 HP2
        replace hbx := hbx0.below hX7 hbx0.lt
        obtain ⟨⟨x0, x1, x2, x3, x4, x5, x6, x7, x8, x9, x10, x11, x12⟩, _, _⟩ := hbx.thirteen
        have hy := HB.out.1
        have hN := HB.out.2
        have hcase : (ht = false ∧ hk = false) ∨ (ht = true) ∨ (ht = false ∧ hk = true) := by cases ht <;> cases hk <;> simp
        rcases hcase with ⟨rfl, rfl⟩ | rfl | ⟨rfl, rfl⟩
        · obtain rfl : [] = P3 := by rw [← HP3.out.2.2]; rfl
          rw [List.append_nil] at hy
          obtain rfl : 2 + n6 + n7 = N := by rw [← hN, ← hy]; simp; omega
          subst hy
          clear HP3 HB hN
          go_wp2_with fail
          go_ret
          exact ⟨_, _, rfl, own_more hO7 hE.size, hE.trans hX7⟩
        all_goals
          obtain ⟨⟨k1, k2, k6⟩, ⟨k3, k4, k7⟩, k5⟩ := HP3.out
          clear k6 k7
          obtain ⟨tn, rfl⟩ := Int.eq_ofNat_of_zero_le k1
          obtain ⟨kn, rfl⟩ := Int.eq_ofNat_of_zero_le k3
          rw [Int.toNat_natCast, Int.toNat_natCast] at k5
          obtain rfl : [UInt8.ofNat (64 * tn + v8b sy 32 + kn)] = P3 := by rw [← k5]; rfl
          have hvb := v8b_le sy 32
          have m1 : IntKind.i64.wrap (64 * (tn : Int)) = ((64 * tn : Nat) : Int) := by rw [i64w _ (by omega) (by omega)]; omega
          have m2 : IntKind.i64.wrap (((64 * tn : Nat) : Int) + pz sy 32) = ((64 * tn + v8b sy 32 : Nat) : Int) := by
            rw [show pz sy 32 = _ from pz_nat sy 32, i64w _ (by omega) (by omega)]; omega
          obtain ⟨G, hG⟩ : ∃ G, 64 * tn + v8b sy 32 + kn = G := ⟨_, rfl⟩
          have m3 : IntKind.i64.wrap (((64 * tn + v8b sy 32 : Nat) : Int) + (kn : Int)) = (G : Int) := by
            rw [i64w _ (by omega) (by omega)]; omega
          rw [hG] at hy
          have hG256 : G < 256 := by omega
          have m4 : (G : Int) % 256 = (G : Int) := by omega
          have m5 : IntKind.u8.wrap (G : Int) = (G : Int) := by rw [IntKind.wrap_u8]; omega
          obtain ⟨t1, ht1⟩ : ∃ t, 64 * tn = t := ⟨_, rfl⟩
          rw [ht1] at m1 m2 m3
          obtain ⟨t2, ht2⟩ : ∃ t, t1 + v8b sy 32 = t := ⟨_, rfl⟩
          rw [ht2] at m2 m3
          obtain rfl : 2 + n6 + n7 + 1 = N := by rw [← hN, ← hy]; simp; omega
          subst hy
          have hn67 : n6 + n7 ≤ 100000 := by omega
          clear HP3 HB hN k5 hG k1 k2 k3 k4 ht1 ht2 hvb
          go_upto_region 13 with fail
          clear x0 x1 x2 x3 x4 x5 x6 x7 x8 x9 x10 x11 x12
          refine regE_start_at (hX7) (by kernel_rfl) ?_
          have hR := (hX7).drew
          replace hO7 := hO7.drew
          generalize hgw : (wc).drew = wr0 at *
          clear hgw
          refine regE_take (i := 0) (v := ?_) rfl (by kernel_rfl) (by kernel_rfl) (by kernel_rfl) (fun _ _ _ h => h) (by rfl) ?_ ?_
          rotate_left
          · intro W hW; go_simp; try with_reducible rfl
          simp only [Act.put, List.setIfInBounds_toArray, List.set_cons_zero, List.set_cons_succ]
          refine regE_take (i := 1) (v := ?_) rfl (by kernel_rfl) (by kernel_rfl) (by kernel_rfl) (fun _ _ _ h => h) (by rfl) ?_ ?_
          rotate_left
          · intro W hW; go_simp; try with_reducible rfl
          simp only [Act.put, List.setIfInBounds_toArray, List.set_cons_zero, List.set_cons_succ]
          refine regE_take (i := 2) (v := ?_) rfl (by kernel_rfl) (by kernel_rfl) (by kernel_rfl) (fun _ _ _ h => h) (by rfl) ?_ ?_
          rotate_left
          · intro W hW; obtain ⟨⟨x0, x1, x2, x3, x4, x5, x6, x7, x8, x9, x10, x11, x12⟩, _, _⟩ := (hbx0.below hW hbx0.lt).thirteen; go_simp; try with_reducible rfl
          simp only [Act.put, List.setIfInBounds_toArray, List.set_cons_zero, List.set_cons_succ]
          refine regE_take (i := 3) (v := ?_) rfl (by kernel_rfl) (by kernel_rfl) (by kernel_rfl) (fun _ _ _ h => h) (by rfl) ?_ ?_
          rotate_left
          · intro W hW; go_simp; try with_reducible rfl
          simp only [Act.put, List.setIfInBounds_toArray, List.set_cons_zero, List.set_cons_succ]
          refine regE_take (i := 4) (v := ?_) rfl (by kernel_rfl) (by kernel_rfl) (by kernel_rfl) (fun _ _ _ h => h) (by rfl) ?_ ?_
          rotate_left
          · intro W hW; go_simp; try with_reducible rfl
          simp only [Act.put, List.setIfInBounds_toArray, List.set_cons_zero, List.set_cons_succ]
          refine regE_take (i := 5) (v := ?_) rfl (by kernel_rfl) (by kernel_rfl) (by kernel_rfl) (fun _ _ _ h => h) (by rfl) ?_ ?_
          rotate_left
          · intro W hW; obtain ⟨⟨x0, x1, x2, x3, x4, x5, x6, x7, x8, x9, x10, x11, x12⟩, _, _⟩ := (hbx0.below hW hbx0.lt).thirteen; go_simp; try with_reducible rfl
          simp only [Act.put, List.setIfInBounds_toArray, List.set_cons_zero, List.set_cons_succ]
          refine regE_take (i := 8) (v := ?_) rfl (by kernel_rfl) (by kernel_rfl) (by kernel_rfl) (fun _ _ _ h => h) (by rfl) ?_ ?_
          rotate_left
          · intro W hW; go_simp; try with_reducible rfl
          simp only [Act.put, List.setIfInBounds_toArray, List.set_cons_zero, List.set_cons_succ]
          refine regE_take (i := 9) (v := ?_) rfl (by kernel_rfl) (by kernel_rfl) (by kernel_rfl) (fun _ _ _ h => h) (by rfl) ?_ ?_
          rotate_left
          · intro W hW; obtain ⟨⟨x0, x1, x2, x3, x4, x5, x6, x7, x8, x9, x10, x11, x12⟩, _, _⟩ := (hbx0.below hW hbx0.lt).thirteen; go_simp; try with_reducible rfl
          simp only [Act.put, List.setIfInBounds_toArray, List.set_cons_zero, List.set_cons_succ]
          refine regE_do (i := 6) rfl (by kernel_rfl) (fun K hK => ?_)
          rw [if_pos (by rfl)]
          go_simp
          refine (rfput_z _ _ _).mono ?_
          rintro e w' ⟨rfl, rfl⟩
          refine hK.out _ _ hR ?_
          clear hK K
          try simp only [Act.put, List.setIfInBounds_toArray, List.set_cons_zero, List.set_cons_succ]
          refine regE_take (i := 7) (v := ?_) rfl (by kernel_rfl) (by kernel_rfl) (by kernel_rfl) (fun _ _ _ h => h) (by rfl) ?_ ?_
          rotate_left
          · intro W hW; go_simp; try with_reducible rfl
          simp only [Act.put, List.setIfInBounds_toArray, List.set_cons_zero, List.set_cons_succ]
          refine regE_take (i := 10) (v := ?_) rfl (by kernel_rfl) (by kernel_rfl) (by kernel_rfl) (fun _ _ _ h => h) (by rfl) ?_ ?_
          rotate_left
          · intro W hW; go_simp; try with_reducible rfl
          simp only [Act.put, List.setIfInBounds_toArray, List.set_cons_zero, List.set_cons_succ]
          refine regE_take (i := 11) (v := ?_) rfl (by kernel_rfl) (by kernel_rfl) (by kernel_rfl) (fun _ _ _ h => h) (by rfl) ?_ ?_
          rotate_left
          · intro W hW; go_simp; try with_reducible rfl
          simp only [Act.put, List.setIfInBounds_toArray, List.set_cons_zero, List.set_cons_succ]
          refine regE_do (i := 12) rfl (by kernel_rfl) (fun K hK => ?_)
          rw [if_pos (by rfl)]
          go_simp
          (first | rw [m4] | rw [m5] | skip)
          have hBG := snoc_byteV wr0 (G : Int) (UInt8.ofNat G) (by rw [UInt8.toNat_ofNat']; omega)
          refine hK.out _ _ (hR.alloc _) ?_
          clear hK K
          replace hR := hR.alloc (.cells #[.int .u8 (G : Int)] 5)
          replace hO7 := hO7.alloc (.cells #[.int .u8 (G : Int)] 5)
          generalize hgw : wr0.alloc (.cells #[.int .u8 (G : Int)] 5) = wr1 at *
          clear hgw
          try simp only [Act.put, List.setIfInBounds_toArray, List.set_cons_zero, List.set_cons_succ]
          refine regE_do (i := 13) rfl (by kernel_rfl) (fun K hK => ?_)
          rw [if_pos (by rfl)]
          refine wp_appB w2 _ _ rfl hR _ (2 + n6 + n7) _ _ rfl hO7 _ 1 1 [UInt8.ofNat G] rfl hBG (by omega) ?_
          intro A8 c8 wr2 hO8 hE8
          refine hK.out _ _ hE8 ?_
          clear hK K
          try simp only [Act.put, List.setIfInBounds_toArray, List.set_cons_zero, List.set_cons_succ]
          refine regE_take (i := 14) (v := ?_) rfl (by kernel_rfl) (by kernel_rfl) (by kernel_rfl) (fun _ _ _ h => h) (by rfl) ?_ ?_
          rotate_left
          · intro W hW; go_simp; try with_reducible rfl
          simp only [Act.put, List.setIfInBounds_toArray, List.set_cons_zero, List.set_cons_succ]
          refine regE_done (by kernel_rfl) ?_
          go_wp2_with fail
          go_ret
          exact ⟨_, _, rfl, own_more hO8 hE.size, hE.trans hE8⟩
end Go.Proofs.Ytcdacnhggpfnaaa

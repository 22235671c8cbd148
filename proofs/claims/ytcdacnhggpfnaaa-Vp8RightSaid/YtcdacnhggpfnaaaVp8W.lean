/- vp8.Write: the walk. -/
import Derived.Test.YtcdacnhggpfnaaaVp8A
import Derived.Test.YtcdacnhggpfnaaaBK
import Derived.Test.YtcdacnhggpfnaaaPut
import Derived.Test.YtcdacnhggpfnaaaElsIn
import Derived.Deep.CutBlock
namespace Go.Proofs.Ytcdacnhggpfnaaa
open Go.RowKit
def fl (b : Bool) (z : Int) : Int := if b = true then z else 0
set_option maxRecDepth 100000 in
set_option maxHeartbeats 1000000 in
theorem flag_z (b : Bool) (z : Int) (w : World) : Calls Try.prog 48 #[.bool b, .int .u8 z] w fun e w' => e = .returned (.int .u8 (fl b z)) ∧ w = w' := by
  cases b
  all_goals
    go_enter Try.func48, Try.ntmps48
    go_wp2_with fail
    go_ret
    exact ⟨rfl, rfl⟩
set_option maxRecDepth 100000 in
set_option maxHeartbeats 2000000 in
theorem v8write_no (d : V8) (w : World) (hr : v8Right d = false) : Calls Try.prog 19 #[.agg #[.bool d.alone, .bool d.start, .int .i64 d.part, .bool d.hasPic, .bool d.wide, .int .i64 d.pic, .bool d.hasLevel, .int .i64 d.level, .bool d.hasTid, .bool d.hasKey, .int .i64 d.tid, .bool d.sync, .int .i64 d.key]] w fun e w' => e = .returned (.tuple #[.slice none 0 0, .int .i64 1]) ∧ Ext w w' := by
  have S := hide (fun W => v8right_any d W false hr)
  clear hr
  go_enter Try.func19, Try.ntmps19
  go_wp2_with fail
  refine (S.out _).mono ?_
  rintro e w1 ⟨rfl, hE⟩
  go_wp2_with fail
  go_ret2
  exact ⟨rfl, ((Ext.refl _).alloc _).trans hE⟩
theorem i64_or_natV (a b : Nat) (ha : a < 9223372036854775808) (hb : b < 9223372036854775808) : bits .or .i64 (a : Int) (b : Int) = ((a ||| b : Nat) : Int) := by
  have hx : a ||| b < 2 ^ 63 := Nat.or_lt_two_pow (by omega) (by omega)
  have h1 : ∀ a : Nat, a < 9223372036854775808 → (BitVec.ofInt 64 (a : Int)).toNat = a := fun a ha => by rw [BitVec.ofInt_natCast, BitVec.toNat_ofNat]; exact Nat.mod_eq_of_lt (by omega)
  show IntKind.i64.wrap ((BitVec.ofInt 64 (a : Int) ||| BitVec.ofInt 64 (b : Int)).toNat : Int) = _
  rw [BitVec.toNat_or, h1 a ha, h1 b hb, IntKind.wrap_i64]
  omega
theorem or_key : ∀ (t : Fin 4) (s : Bool) (k : Fin 32), bits .or .u8 (bits .or .u8 ((64 * t.1 : Nat) : Int) (fl s 32)) ((k.1 : Nat) : Int) = ((64 * t.1 + v8b s 32 + k.1 : Nat) : Int) := by decide +kernel
theorem own_oneV (w : World) (F : Nat) (hF : F < 256) : (w.alloc (.cells #[.int .u8 (F : Int)] 5)).ownsRow w.heap.size 5 1 (.slice (some ⟨w.heap.size, 0, none⟩) 1 1) 1 ([UInt8.ofNat F].map Bv) := by
  have e : [UInt8.ofNat F].map Bv = [.int .u8 (F : Int)] := by simp [Bv]; omega
  rw [e]
  exact World.ownsRow_lit (base := w.heap.size) (e := 5) (size := 1) w _ 1 (Nat.le_refl _) (by unfold maxLen; omega) (by simp)
theorem snoc_byteV (w : World) (x : Int) (q : UInt8) (hq : x = (q.toNat : Int)) : Bytes (w.alloc (.cells #[.int .u8 x] 5)) (some ⟨w.heap.size, 0, none⟩) 1 1 [q] := by
  subst hq
  exact Bytes.lit (w := w) (vs := [.int .u8 (q.toNat : Int)]) [q] 5 1 rfl rfl (by omega)
theorem or_has (hp hl ht hk : Bool) : bits .or .u8 (bits .or .u8 (bits .or .u8 (fl hp 128) (fl hl 64)) (fl ht 32)) (fl hk 16) = ((v8b hp 128 + v8b hl 64 + v8b ht 32 + v8b hk 16 : Nat) : Int) := by
  cases hp <;> cases hl <;> cases ht <;> cases hk <;> rfl
theorem or_first (h a s : Bool) (p : Int) (h0 : 0 ≤ p) (h7 : p ≤ 7) : bits .or .u8 (bits .or .u8 (bits .or .u8 (fl h 128) (fl a 32)) (fl s 16)) p = ((v8b h 128 + v8b a 32 + v8b s 16 + p.toNat : Nat) : Int) := by
  have : p = 0 ∨ p = 1 ∨ p = 2 ∨ p = 3 ∨ p = 4 ∨ p = 5 ∨ p = 6 ∨ p = 7 := by omega
  rcases this with rfl | rfl | rfl | rfl | rfl | rfl | rfl | rfl <;> cases h <;> cases a <;> cases s <;> rfl
set_option maxRecDepth 100000 in
set_option maxHeartbeats 4000000 in
theorem v8write_O (d : V8) (w : World) (hr : v8Right d = true) (y : List UInt8) (hy : v8Bytes d = y) (N : Nat) (hN : y.length = N) : Calls Try.prog 19 #[.agg #[.bool d.alone, .bool d.start, .int .i64 d.part, .bool d.hasPic, .bool d.wide, .int .i64 d.pic, .bool d.hasLevel, .int .i64 d.level, .bool d.hasTid, .bool d.hasKey, .int .i64 d.tid, .bool d.sync, .int .i64 d.key]] w fun e w' => ∃ A' c', e = .returned (.tuple #[.slice A' N c', .int .i64 0]) ∧ w'.ownsRow w.heap.size 5 1 (.slice A' N c') N (y.map Bv) ∧ Ext w w' := by
  obtain ⟨r1, r2, r3, r4, r5, r6⟩ := v8Right_iff hr
  have hbx := Blk.new w 45 #[.bool d.alone, .bool d.start, .int .i64 d.part, .bool d.hasPic, .bool d.wide, .int .i64 d.pic, .bool d.hasLevel, .int .i64 d.level, .bool d.hasTid, .bool d.hasKey, .int .i64 d.tid, .bool d.sync, .int .i64 d.key]
  have hE := (Ext.refl w).alloc (.cells #[.bool d.alone, .bool d.start, .int .i64 d.part, .bool d.hasPic, .bool d.wide, .int .i64 d.pic, .bool d.hasLevel, .int .i64 d.level, .bool d.hasTid, .bool d.hasKey, .int .i64 d.tid, .bool d.sync, .int .i64 d.key] 45)
  have S := hide (fun W => v8right_any d W true hr)
  have hH := v8Has_lt d
  obtain ⟨Hs, hHs⟩ : ∃ x, v8Has d = x := ⟨_, rfl⟩
  have hor := or_has d.hasPic d.hasLevel d.hasTid d.hasKey
  rw [show v8b d.hasPic 128 + v8b d.hasLevel 64 + v8b d.hasTid 32 + v8b d.hasKey 16 = Hs from hHs] at hor
  rw [hHs] at hH
  have HR := hide (And.intro r1 (And.intro r2 (And.intro r3 (And.intro r4 (And.intro r5 r6)))))
  have HOR := hide hor
  clear hr r1 r2 r3 r4 r5 r6 hor
  go_enter Try.func19, Try.ntmps19
  go_wp2_with fail
  refine (S.out _).mono ?_
  rintro e w1 ⟨rfl, hE1⟩
  replace hbx := hbx.below hE1 (by simp)
  replace hE := hE.trans hE1
  obtain ⟨⟨x0, x1, x2, x3, x4, x5, x6, x7, x8, x9, x10, x11, x12⟩, _, _⟩ := hbx.thirteen
  clear hE1 S
  go_upto_region 3 with fail
  clear x0 x1 x2 x3 x4 x5 x6 x7 x8 x9 x10 x11 x12
  refine regE_start (by kernel_rfl) ?_
  have hR := (Ext.refl w1).drew
  generalize hgw : (w1).drew = wr0 at *
  clear hgw
  refine regE_take (i := 0) (v := ?_) rfl (by kernel_rfl) (by kernel_rfl) (by kernel_rfl) (fun _ _ _ h => h) (by rfl) ?_ ?_
  rotate_left
  · intro W hW; go_simp; try with_reducible rfl
  simp only [Act.put, List.setIfInBounds_toArray, List.set_cons_zero, List.set_cons_succ]
  refine regE_take (i := 1) (v := ?_) rfl (by kernel_rfl) (by kernel_rfl) (by kernel_rfl) (fun _ _ _ h => h) (by rfl) ?_ ?_
  rotate_left
  · intro W hW; obtain ⟨⟨x0, x1, x2, x3, x4, x5, x6, x7, x8, x9, x10, x11, x12⟩, _, _⟩ := (hbx.below hW hbx.lt).thirteen; go_simp; try with_reducible rfl
  simp only [Act.put, List.setIfInBounds_toArray, List.set_cons_zero, List.set_cons_succ]
  refine regE_take (i := 3) (v := ?_) rfl (by kernel_rfl) (by kernel_rfl) (by kernel_rfl) (fun _ _ _ h => h) (by rfl) ?_ ?_
  rotate_left
  · intro W hW; go_simp; try with_reducible rfl
  simp only [Act.put, List.setIfInBounds_toArray, List.set_cons_zero, List.set_cons_succ]
  refine regE_take (i := 4) (v := ?_) rfl (by kernel_rfl) (by kernel_rfl) (by kernel_rfl) (fun _ _ _ h => h) (by rfl) ?_ ?_
  rotate_left
  · intro W hW; obtain ⟨⟨x0, x1, x2, x3, x4, x5, x6, x7, x8, x9, x10, x11, x12⟩, _, _⟩ := (hbx.below hW hbx.lt).thirteen; go_simp; try with_reducible rfl
  simp only [Act.put, List.setIfInBounds_toArray, List.set_cons_zero, List.set_cons_succ]
  refine regE_take (i := 7) (v := ?_) rfl (by kernel_rfl) (by kernel_rfl) (by kernel_rfl) (fun _ _ _ h => h) (by rfl) ?_ ?_
  rotate_left
  · intro W hW; go_simp; try with_reducible rfl
  simp only [Act.put, List.setIfInBounds_toArray, List.set_cons_zero, List.set_cons_succ]
  refine regE_take (i := 8) (v := ?_) rfl (by kernel_rfl) (by kernel_rfl) (by kernel_rfl) (fun _ _ _ h => h) (by rfl) ?_ ?_
  rotate_left
  · intro W hW; obtain ⟨⟨x0, x1, x2, x3, x4, x5, x6, x7, x8, x9, x10, x11, x12⟩, _, _⟩ := (hbx.below hW hbx.lt).thirteen; go_simp; try with_reducible rfl
  simp only [Act.put, List.setIfInBounds_toArray, List.set_cons_zero, List.set_cons_succ]
  refine regE_take (i := 11) (v := ?_) rfl (by kernel_rfl) (by kernel_rfl) (by kernel_rfl) (fun _ _ _ h => h) (by rfl) ?_ ?_
  rotate_left
  · intro W hW; go_simp; try with_reducible rfl
  simp only [Act.put, List.setIfInBounds_toArray, List.set_cons_zero, List.set_cons_succ]
  refine regE_take (i := 12) (v := ?_) rfl (by kernel_rfl) (by kernel_rfl) (by kernel_rfl) (fun _ _ _ h => h) (by rfl) ?_ ?_
  rotate_left
  · intro W hW; obtain ⟨⟨x0, x1, x2, x3, x4, x5, x6, x7, x8, x9, x10, x11, x12⟩, _, _⟩ := (hbx.below hW hbx.lt).thirteen; go_simp; try with_reducible rfl
  simp only [Act.put, List.setIfInBounds_toArray, List.set_cons_zero, List.set_cons_succ]
  refine regE_do (i := 2) rfl (by kernel_rfl) (fun K hK => ?_)
  rw [if_pos (by rfl)]
  go_simp
  refine (flag_z _ _ _).mono ?_
  rintro e w' ⟨rfl, rfl⟩
  refine hK.out _ _ hR ?_
  clear hK K
  try simp only [Act.put, List.setIfInBounds_toArray, List.set_cons_zero, List.set_cons_succ]
  refine regE_do (i := 5) rfl (by kernel_rfl) (fun K hK => ?_)
  rw [if_pos (by rfl)]
  go_simp
  refine (flag_z _ _ _).mono ?_
  rintro e w' ⟨rfl, rfl⟩
  refine hK.out _ _ hR ?_
  clear hK K
  try simp only [Act.put, List.setIfInBounds_toArray, List.set_cons_zero, List.set_cons_succ]
  refine regE_take (i := 6) (v := ?_) rfl (by kernel_rfl) (by kernel_rfl) (by kernel_rfl) (fun _ _ _ h => h) (by rfl) ?_ ?_
  rotate_left
  · intro W hW; go_simp; try with_reducible rfl
  simp only [Act.put, List.setIfInBounds_toArray, List.set_cons_zero, List.set_cons_succ]
  refine regE_do (i := 9) rfl (by kernel_rfl) (fun K hK => ?_)
  rw [if_pos (by rfl)]
  go_simp
  refine (flag_z _ _ _).mono ?_
  rintro e w' ⟨rfl, rfl⟩
  refine hK.out _ _ hR ?_
  clear hK K
  try simp only [Act.put, List.setIfInBounds_toArray, List.set_cons_zero, List.set_cons_succ]
  refine regE_take (i := 10) (v := ?_) rfl (by kernel_rfl) (by kernel_rfl) (by kernel_rfl) (fun _ _ _ h => h) (by rfl) ?_ ?_
  rotate_left
  · intro W hW; go_simp; try with_reducible rfl
  simp only [Act.put, List.setIfInBounds_toArray, List.set_cons_zero, List.set_cons_succ]
  refine regE_do (i := 13) rfl (by kernel_rfl) (fun K hK => ?_)
  rw [if_pos (by rfl)]
  go_simp
  refine (flag_z _ _ _).mono ?_
  rintro e w' ⟨rfl, rfl⟩
  refine hK.out _ _ hR ?_
  clear hK K
  try simp only [Act.put, List.setIfInBounds_toArray, List.set_cons_zero, List.set_cons_succ]
  refine regE_take (i := 14) (v := ?_) rfl (by kernel_rfl) (by kernel_rfl) (by kernel_rfl) (fun _ _ _ h => h) (by rfl) ?_ ?_
  rotate_left
  · intro W hW; go_simp; try with_reducible rfl
  simp only [Act.put, List.setIfInBounds_toArray, List.set_cons_zero, List.set_cons_succ]
  refine regE_take (i := 15) (v := ?_) rfl (by kernel_rfl) (by kernel_rfl) (by kernel_rfl) (fun _ _ _ h => h) (by rfl) ?_ ?_
  rotate_left
  · intro W hW; go_simp; try with_reducible rfl
  simp only [Act.put, List.setIfInBounds_toArray, List.set_cons_zero, List.set_cons_succ]
  refine regE_done (by kernel_rfl) ?_
  replace hbx := hbx.below hR hbx.lt
  replace hE := hE.trans hR
  generalize wr0 = w2 at *
  clear hR
  rw [HOR.out]
  have hfo := or_first (decide (0 < Hs)) d.alone d.start d.part HR.out.1.1 HR.out.1.2
  obtain ⟨F, hF⟩ : ∃ x, v8b (decide (0 < Hs)) 128 + v8b d.alone 32 + v8b d.start 16 + d.part.toNat = x := ⟨_, rfl⟩
  rw [hF] at hfo
  have HFO := hide hfo
  have hF256 : F < 256 := by rw [← hF]; have := v8b_le (decide (0 < Hs)) 128; have := v8b_le d.alone 32; have := v8b_le d.start 16; have := HR.out.1; omega
  have hpm : IntKind.u8.wrap d.part = d.part := by have := HR.out.1; rw [IntKind.wrap_u8]; omega
  clear hfo
  go_upto_region 4 with fail
  refine regE_start (by kernel_rfl) ?_
  have hR := (Ext.refl w2).drew
  generalize hgw : (w2).drew = wr0 at *
  clear hgw
  refine regE_take (i := 0) (v := ?_) rfl (by kernel_rfl) (by kernel_rfl) (by kernel_rfl) (fun _ _ _ h => h) (by rfl) ?_ ?_
  rotate_left
  · intro W hW; go_simp; try with_reducible rfl
  simp only [Act.put, List.setIfInBounds_toArray, List.set_cons_zero, List.set_cons_succ]
  refine regE_take (i := 1) (v := ?_) rfl (by kernel_rfl) (by kernel_rfl) (by kernel_rfl) (fun _ _ _ h => h) (by rfl) ?_ ?_
  rotate_left
  · intro W hW; go_simp; try with_reducible rfl
  simp only [Act.put, List.setIfInBounds_toArray, List.set_cons_zero, List.set_cons_succ]
  refine regE_take (i := 3) (v := ?_) rfl (by kernel_rfl) (by kernel_rfl) (by kernel_rfl) (fun _ _ _ h => h) (by rfl) ?_ ?_
  rotate_left
  · intro W hW; go_simp; try with_reducible rfl
  simp only [Act.put, List.setIfInBounds_toArray, List.set_cons_zero, List.set_cons_succ]
  refine regE_take (i := 4) (v := ?_) rfl (by kernel_rfl) (by kernel_rfl) (by kernel_rfl) (fun _ _ _ h => h) (by rfl) ?_ ?_
  rotate_left
  · intro W hW; obtain ⟨⟨x0, x1, x2, x3, x4, x5, x6, x7, x8, x9, x10, x11, x12⟩, _, _⟩ := (hbx.below hW hbx.lt).thirteen; go_simp; try with_reducible rfl
  simp only [Act.put, List.setIfInBounds_toArray, List.set_cons_zero, List.set_cons_succ]
  refine regE_take (i := 7) (v := ?_) rfl (by kernel_rfl) (by kernel_rfl) (by kernel_rfl) (fun _ _ _ h => h) (by rfl) ?_ ?_
  rotate_left
  · intro W hW; go_simp; try with_reducible rfl
  simp only [Act.put, List.setIfInBounds_toArray, List.set_cons_zero, List.set_cons_succ]
  refine regE_take (i := 8) (v := ?_) rfl (by kernel_rfl) (by kernel_rfl) (by kernel_rfl) (fun _ _ _ h => h) (by rfl) ?_ ?_
  rotate_left
  · intro W hW; obtain ⟨⟨x0, x1, x2, x3, x4, x5, x6, x7, x8, x9, x10, x11, x12⟩, _, _⟩ := (hbx.below hW hbx.lt).thirteen; go_simp; try with_reducible rfl
  simp only [Act.put, List.setIfInBounds_toArray, List.set_cons_zero, List.set_cons_succ]
  refine regE_take (i := 11) (v := ?_) rfl (by kernel_rfl) (by kernel_rfl) (by kernel_rfl) (fun _ _ _ h => h) (by rfl) ?_ ?_
  rotate_left
  · intro W hW; go_simp; try with_reducible rfl
  simp only [Act.put, List.setIfInBounds_toArray, List.set_cons_zero, List.set_cons_succ]
  refine regE_take (i := 12) (v := ?_) rfl (by kernel_rfl) (by kernel_rfl) (by kernel_rfl) (fun _ _ _ h => h) (by rfl) ?_ ?_
  rotate_left
  · intro W hW; obtain ⟨⟨x0, x1, x2, x3, x4, x5, x6, x7, x8, x9, x10, x11, x12⟩, _, _⟩ := (hbx.below hW hbx.lt).thirteen; go_simp; try with_reducible rfl
  simp only [Act.put, List.setIfInBounds_toArray, List.set_cons_zero, List.set_cons_succ]
  refine regE_take (i := 13) (v := ?_) rfl (by kernel_rfl) (by kernel_rfl) (by kernel_rfl) (fun _ _ _ h => h) (by rfl) ?_ ?_
  rotate_left
  · intro W hW; go_simp; try with_reducible rfl
  simp only [Act.put, List.setIfInBounds_toArray, List.set_cons_zero, List.set_cons_succ]
  refine regE_do (i := 2) rfl (by kernel_rfl) (fun K hK => ?_)
  rw [if_pos (by rfl)]
  go_simp
  refine (flag_z _ _ _).mono ?_
  rintro e w' ⟨rfl, rfl⟩
  refine hK.out _ _ hR ?_
  clear hK K
  try simp only [Act.put, List.setIfInBounds_toArray, List.set_cons_zero, List.set_cons_succ]
  refine regE_do (i := 5) rfl (by kernel_rfl) (fun K hK => ?_)
  rw [if_pos (by rfl)]
  go_simp
  refine (flag_z _ _ _).mono ?_
  rintro e w' ⟨rfl, rfl⟩
  refine hK.out _ _ hR ?_
  clear hK K
  try simp only [Act.put, List.setIfInBounds_toArray, List.set_cons_zero, List.set_cons_succ]
  refine regE_take (i := 6) (v := ?_) rfl (by kernel_rfl) (by kernel_rfl) (by kernel_rfl) (fun _ _ _ h => h) (by rfl) ?_ ?_
  rotate_left
  · intro W hW; go_simp; try with_reducible rfl
  simp only [Act.put, List.setIfInBounds_toArray, List.set_cons_zero, List.set_cons_succ]
  refine regE_do (i := 9) rfl (by kernel_rfl) (fun K hK => ?_)
  rw [if_pos (by rfl)]
  go_simp
  refine (flag_z _ _ _).mono ?_
  rintro e w' ⟨rfl, rfl⟩
  refine hK.out _ _ hR ?_
  clear hK K
  try simp only [Act.put, List.setIfInBounds_toArray, List.set_cons_zero, List.set_cons_succ]
  refine regE_take (i := 10) (v := ?_) rfl (by kernel_rfl) (by kernel_rfl) (by kernel_rfl) (fun _ _ _ h => h) (by rfl) ?_ ?_
  rotate_left
  · intro W hW; go_simp; try with_reducible rfl
  simp only [Act.put, List.setIfInBounds_toArray, List.set_cons_zero, List.set_cons_succ]
  refine regE_take (i := 14) (v := ?_) rfl (by kernel_rfl) (by kernel_rfl) (by kernel_rfl) (fun _ _ _ h => h) (by rfl) ?_ ?_
  rotate_left
  · intro W hW; go_simp; try with_reducible rfl
  simp only [Act.put, List.setIfInBounds_toArray, List.set_cons_zero, List.set_cons_succ]
  refine regE_do (i := 15) rfl (by kernel_rfl) (fun K hK => ?_)
  rw [if_pos (by rfl)]
  go_simp
  rw [HFO.out]
  have hO := own_oneV wr0 F hF256
  have hszW : w2.heap.size ≤ wr0.heap.size := hR.size
  refine hK.out _ _ (hR.alloc _) ?_
  clear hK K
  replace hR := hR.alloc (.cells #[.int .u8 (F : Int)] 5)
  generalize hgw : wr0.alloc (.cells #[.int .u8 (F : Int)] 5) = wr1 at *
  clear hgw
  try simp only [Act.put, List.setIfInBounds_toArray, List.set_cons_zero, List.set_cons_succ]
  refine regE_take (i := 16) (v := ?_) rfl (by kernel_rfl) (by kernel_rfl) (by kernel_rfl) (fun _ _ _ h => h) (by rfl) ?_ ?_
  rotate_left
  · intro W hW; go_simp; try with_reducible rfl
  simp only [Act.put, List.setIfInBounds_toArray, List.set_cons_zero, List.set_cons_succ]
  refine regE_done (by kernel_rfl) ?_
  replace hO := own_more hO hszW
  have hX := hR
  have hbx0 := hbx
  replace hbx := hbx.below hR hbx.lt
  generalize wr0.heap.size = gb at *
  generalize wr1 = w3 at *
  clear hR HFO HOR hszW
  obtain ⟨⟨x0, x1, x2, x3, x4, x5, x6, x7, x8, x9, x10, x11, x12⟩, _, _⟩ := hbx.thirteen
  by_cases h0 : Hs = 0
  · subst h0
    obtain rfl : [UInt8.ofNat F] = y := by rw [← hy]; unfold v8Bytes; rw [if_pos hHs, v8First, hHs]; rw [hF]
    obtain rfl : 1 = N := hN
    clear hy hHs hF
    go_wp2_with fail
    go_ret2
    exact ⟨_, _, rfl, own_more hO hE.size, hE.trans hX⟩
  · have hne : ((Hs : Int) == 0) = false := by rw [beq_eq_false_iff_ne]; omega
    have hb : [UInt8.ofNat F, UInt8.ofNat Hs] ++ v8Pic d ++ v8Lev d ++ v8Key d = y := by rw [← hy]; unfold v8Bytes; rw [if_neg (by rw [hHs]; exact h0), v8First, hHs]; rw [hF]
    have HB := hide (And.intro hb hN)
    clear hb hF hHs hy hN
    go_upto_block 0 with (at_builtin; refine wpList_appB w2 _ _ rfl rfl (hX.alloc _) _ 1 1 _ rfl (own_ext hO ((Ext.refl _).alloc _)) _ 1 1 [UInt8.ofNat Hs] rfl (snoc_byteV _ _ (UInt8.ofNat Hs) (by rw [UInt8.toNat_ofNat']; omega)) (by omega) ?_; intro A5 c5 w5 hO5 hE5)
    rw [show ([UInt8.ofNat F] ++ [UInt8.ofNat Hs] : List UInt8) = [UInt8.ofNat F, UInt8.ofNat Hs] from rfl] at hO5
    clear x0 x1 x2 x3 x4 x5 x6 x7 x8 x9 x10 x11 x12 hO hX
    replace hbx := hbx0.below hE5 hbx0.lt
    obtain ⟨a, s, p, hp, wi, pc, hl, lv, ht, hk, ti, sy, ky⟩ := d
    dsimp only at *
    obtain ⟨P1, hP1⟩ : ∃ x, v8Pic ⟨a, s, p, hp, wi, pc, hl, lv, ht, hk, ti, sy, ky⟩ = x := ⟨_, rfl⟩
    obtain ⟨P2, hP2⟩ : ∃ x, v8Lev ⟨a, s, p, hp, wi, pc, hl, lv, ht, hk, ti, sy, ky⟩ = x := ⟨_, rfl⟩
    obtain ⟨P3, hP3⟩ : ∃ x, v8Key ⟨a, s, p, hp, wi, pc, hl, lv, ht, hk, ti, sy, ky⟩ = x := ⟨_, rfl⟩
    have hB := HB.out
    rw [hP1, hP2, hP3] at hB
    have HB := hide hB
    unfold v8Pic at hP1
    unfold v8Lev at hP2
    unfold v8Key at hP3
    have hr := HR.out
    unfold v8W at hr
    dsimp only at hP1 hP2 hP3 hr
    have HP1 := hide (And.intro hr.2.1 hP1)
    have HP2 := hide (And.intro hr.2.2.1 hP2)
    have HP3 := hide (And.intro hr.2.2.2.1 (And.intro hr.2.2.2.2.1 hP3))
    clear hB hP1 hP2 hP3 hr HR
    obtain ⟨⟨x0, x1, x2, x3, x4, x5, x6, x7, x8, x9, x10, x11, x12⟩, _, _⟩ := hbx.thirteen
    go_cut [5] (fun v wx => ∃ A' n' c', v = .slice A' (2 + n') c' ∧ P1.length = n' ∧ n' ≤ 2 ∧ wx.ownsRow w2.heap.size 5 1 (.slice A' (2 + n') c') (2 + n') (([UInt8.ofNat F, UInt8.ofNat Hs] ++ P1).map Bv) ∧ Ext w2 wx)
    case first =>
      clear HP2 HP3 HB
      cases wi
      · cases hp
        · obtain rfl : [] = P1 := by rw [← HP1.out.2]; rfl
          clear HP1
          go_wp2_with fail
          go_meet
          case rel => exact ⟨_, 0, _, rfl, rfl, by omega, by simpa using hO5, hE5⟩
        · obtain rfl : [UInt8.ofNat pc.toNat] = P1 := by rw [← HP1.out.2]; rfl
          have hp := HP1.out.1
          simp only [Bool.false_eq_true, if_false] at hp
          have hpm : IntKind.u8.wrap pc = pc := by rw [IntKind.wrap_u8]; omega
          have hpq : pc = ((UInt8.ofNat pc.toNat).toNat : Int) := by rw [UInt8.toNat_ofNat']; omega
          have HQ := hide hpq
          clear HP1 hp hpq
          go_wp2_with (at_builtin; refine wpList_appB w2 _ _ rfl rfl (hE5.alloc _) _ 2 _ _ rfl (own_ext hO5 ((Ext.refl _).alloc _)) _ 1 1 [UInt8.ofNat pc.toNat] rfl (snoc_byteV _ _ _ HQ.out) (by omega) ?_; intro A7 c7 w7 hO7 hE7)
          go_meet
          case rel => exact ⟨_, 1, _, rfl, rfl, by omega, hO7, hE7⟩
      · obtain rfl : be 2 (32768 + pc.toNat) = P1 := by rw [← HP1.out.2]; rfl
        have hp := HP1.out.1
        simp only [if_true] at hp
        obtain ⟨q, rfl⟩ := Int.eq_ofNat_of_zero_le hp.1
        rw [Int.toNat_natCast] at *
        have hor : bits .or .i64 32768 (q : Int) = ((32768 + q : Nat) : Int) := by
          have h := Nat.two_pow_add_eq_or_of_lt (i := 15) (b := q) (by omega) 1
          have e := i64_or_natV 32768 q (by omega) (by omega)
          rw [show (32768 ||| q) = 32768 + q from by rw [show (32768 : Nat) = 2 ^ 15 * 1 from rfl, ← h]] at e
          exact e
        have hpe : putE (32768 + q) 2 = 0 := putE_of (by omega) (by omega) (by simp; omega)
        have SP := hide (fun W => put_B (32768 + q) 2 W (by omega) (be 2 (32768 + q)) (putL_ok hpe) 0 hpe)
        have hbl := be_length 2 (32768 + q)
        rw [hbl] at SP
        have HBL := hide hbl
        obtain ⟨V, hV⟩ : ∃ V, 32768 + q = V := ⟨_, rfl⟩
        rw [hV] at hor SP HBL hpe
        have HVV := hide hV
        have hVw : IntKind.u64.wrap (V : Int) = (V : Int) := IntWalk.u64_in _ (by omega)
        have HOR := hide hor
        clear hor hpe hbl hV HP1 hp
        go_wp2_with fail
        rw [HOR.out, hVw]
        refine (SP.out _).mono ?_
        rintro e w6 ⟨A7, c7, rfl, hB7, hE6⟩
        replace hO5 := own_ext hO5 hE6
        replace hE5 := hE5.trans hE6
        go_wp2_with (at_builtin; refine wpList_appB w2 _ _ rfl rfl hE5 _ 2 _ _ rfl hO5 A7 2 c7 _ rfl hB7 (by omega) ?_; intro A8 c8 w8 hO8 hE8)
        go_meet
        case rel => exact ⟨_, 2, _, rfl, by rw [HVV.out]; exact HBL.out, by omega, by rw [HVV.out]; exact hO8, hE8⟩
    case rest =>
      obtain ⟨A6, n6, c6, rfl, hn6, hn6b, hO6, hX6⟩ := hcut
      clear x0 x1 x2 x3 x4 x5 x6 x7 x8 x9 x10 x11 x12 hO5 hE5 HP1
      replace hbx := hbx0.below hX6 hbx0.lt
      obtain ⟨⟨x0, x1, x2, x3, x4, x5, x6, x7, x8, x9, x10, x11, x12⟩, _, _⟩ := hbx.thirteen
      go_upto_if 73 with (fail)
      go_cut [5] (fun v wx => ∃ A' n' c', v = .slice A' (2 + n6 + n') c' ∧ P2.length = n' ∧ n' ≤ 1 ∧ wx.ownsRow w2.heap.size 5 1 (.slice A' (2 + n6 + n') c') (2 + n6 + n') (([UInt8.ofNat F, UInt8.ofNat Hs] ++ P1 ++ P2).map Bv) ∧ Ext w2 wx)
      case first =>
        clear HP3 HB
        have hn2 : n6 ≤ 2 := hn6b
        cases hl
        · obtain rfl : [] = P2 := by rw [← HP2.out.2]; rfl
          clear HP2
          go_wp2_with fail
          go_meet
          case rel => exact ⟨_, 0, _, rfl, rfl, by omega, by simpa using hO6, hX6⟩
        · obtain rfl : [UInt8.ofNat lv.toNat] = P2 := by rw [← HP2.out.2]; rfl
          have hp := HP2.out.1
          have hpm : IntKind.u8.wrap lv = lv := by rw [IntKind.wrap_u8]; omega
          have hpq : lv = ((UInt8.ofNat lv.toNat).toNat : Int) := by rw [UInt8.toNat_ofNat']; omega
          have HQ := hide hpq
          clear HP2 hp hpq
          go_wp2_with (at_builtin; refine wpList_appB w2 _ _ rfl rfl (hX6.alloc _) _ (2 + n6) _ _ rfl (own_ext hO6 ((Ext.refl _).alloc _)) _ 1 1 [UInt8.ofNat lv.toNat] rfl (snoc_byteV _ _ _ HQ.out) (by omega) ?_; intro A7 c7 w7 hO7 hE7)
          go_meet
          case rel => exact ⟨_, 1, _, rfl, rfl, by omega, hO7, hE7⟩
      case rest =>
        obtain ⟨A7, n7, c7, rfl, hn7, hn7b, hO7, hX7⟩ := hcut
        clear x0 x1 x2 x3 x4 x5 x6 x7 x8 x9 x10 x11 x12 hO6 hX6 HP2
        replace hbx := hbx0.below hX7 hbx0.lt
        obtain ⟨⟨x0, x1, x2, x3, x4, x5, x6, x7, x8, x9, x10, x11, x12⟩, _, _⟩ := hbx.thirteen
        have hy := HB.out.1
        have hN := HB.out.2
        have hcase : (ht = false ∧ hk = false) ∨ (ht = true) ∨ (ht = false ∧ hk = true) := by cases ht <;> cases hk <;> simp
        rcases hcase with ⟨rfl, rfl⟩ | rfl | ⟨rfl, rfl⟩
        · obtain rfl : [] = P3 := by rw [← HP3.out.2.2]; rfl
          rw [List.append_nil] at hy
          obtain rfl : 2 + n6 + n7 = N := by rw [← hN, ← hy]; simp; omega
          subst hy
          clear HP3 HB hN
          go_wp2_with fail
          go_ret2
          exact ⟨_, _, rfl, own_more hO7 hE.size, hE.trans hX7⟩
        all_goals
          obtain ⟨⟨k1, k2, k6⟩, ⟨k3, k4, k7⟩, k5⟩ := HP3.out
          clear k6 k7
          obtain ⟨tn, rfl⟩ := Int.eq_ofNat_of_zero_le k1
          obtain ⟨kn, rfl⟩ := Int.eq_ofNat_of_zero_le k3
          rw [Int.toNat_natCast, Int.toNat_natCast] at k5
          obtain rfl : [UInt8.ofNat (64 * tn + v8b sy 32 + kn)] = P3 := by rw [← k5]; rfl
          have hor := or_key ⟨tn, by omega⟩ sy ⟨kn, by omega⟩
          dsimp only at hor
          have hvb := v8b_le sy 32
          obtain ⟨G, hG⟩ : ∃ G, 64 * tn + v8b sy 32 + kn = G := ⟨_, rfl⟩
          rw [hG] at hor hy
          have hG256 : G < 256 := by omega
          have g1 : IntKind.u8.wrap (tn : Int) = (tn : Int) := by rw [IntKind.wrap_u8]; omega
          have g2 : IntKind.u8.wrap (kn : Int) = (kn : Int) := by rw [IntKind.wrap_u8]; omega
          obtain rfl : 2 + n6 + n7 + 1 = N := by rw [← hN, ← hy]; simp; omega
          subst hy
          have HOR := hide hor
          have e0 : IntKind.u8.wrap ((tn : Int) * 64) = ((64 * tn : Nat) : Int) := by rw [IntKind.wrap_u8]; omega
          have E0 := hide e0
          have hn67 : n6 + n7 ≤ 100000 := by omega
          clear e0
          clear HP3 HB hN k5 hor hG k1 k2 k3 k4
          go_upto_region 16 with fail
          clear x0 x1 x2 x3 x4 x5 x6 x7 x8 x9 x10 x11 x12
          refine regE_start_at (hX7) (by kernel_rfl) ?_
          have hR := (hX7).drew
          replace hO7 := hO7.drew
          generalize hgw : (wc).drew = wr0 at *
          clear hgw
          refine regE_take (i := 0) (v := ?_) rfl (by kernel_rfl) (by kernel_rfl) (by kernel_rfl) (fun _ _ _ h => h) (by rfl) ?_ ?_
          rotate_left
          · intro W hW; go_simp; try with_reducible rfl
          simp only [Act.put, List.setIfInBounds_toArray, List.set_cons_zero, List.set_cons_succ]
          refine regE_take (i := 1) (v := ?_) rfl (by kernel_rfl) (by kernel_rfl) (by kernel_rfl) (fun _ _ _ h => h) (by rfl) ?_ ?_
          rotate_left
          · intro W hW; go_simp; try with_reducible rfl
          simp only [Act.put, List.setIfInBounds_toArray, List.set_cons_zero, List.set_cons_succ]
          refine regE_take (i := 2) (v := ?_) rfl (by kernel_rfl) (by kernel_rfl) (by kernel_rfl) (fun _ _ _ h => h) (by rfl) ?_ ?_
          rotate_left
          · intro W hW; obtain ⟨⟨x0, x1, x2, x3, x4, x5, x6, x7, x8, x9, x10, x11, x12⟩, _, _⟩ := (hbx0.below hW hbx0.lt).thirteen; go_simp; try with_reducible rfl
          simp only [Act.put, List.setIfInBounds_toArray, List.set_cons_zero, List.set_cons_succ]
          refine regE_take (i := 3) (v := ?_) rfl (by kernel_rfl) (by kernel_rfl) (by kernel_rfl) (fun _ _ _ h => h) (by rfl) ?_ ?_
          rotate_left
          · intro W hW; go_simp; try with_reducible rfl
          simp only [Act.put, List.setIfInBounds_toArray, List.set_cons_zero, List.set_cons_succ]
          refine regE_take (i := 4) (v := ?_) rfl (by kernel_rfl) (by kernel_rfl) (by kernel_rfl) (fun _ _ _ h => h) (by rfl) ?_ ?_
          rotate_left
          · intro W hW; go_simp; try with_reducible rfl
          simp only [Act.put, List.setIfInBounds_toArray, List.set_cons_zero, List.set_cons_succ]
          refine regE_take (i := 5) (v := ?_) rfl (by kernel_rfl) (by kernel_rfl) (by kernel_rfl) (fun _ _ _ h => h) (by rfl) ?_ ?_
          rotate_left
          · intro W hW; go_simp; try with_reducible rfl
          simp only [Act.put, List.setIfInBounds_toArray, List.set_cons_zero, List.set_cons_succ]
          refine regE_take (i := 6) (v := ?_) rfl (by kernel_rfl) (by kernel_rfl) (by kernel_rfl) (fun _ _ _ h => h) (by rfl) ?_ ?_
          rotate_left
          · intro W hW; obtain ⟨⟨x0, x1, x2, x3, x4, x5, x6, x7, x8, x9, x10, x11, x12⟩, _, _⟩ := (hbx0.below hW hbx0.lt).thirteen; go_simp; try with_reducible rfl
          simp only [Act.put, List.setIfInBounds_toArray, List.set_cons_zero, List.set_cons_succ]
          refine regE_take (i := 9) (v := ?_) rfl (by kernel_rfl) (by kernel_rfl) (by kernel_rfl) (fun _ _ _ h => h) (by rfl) ?_ ?_
          rotate_left
          · intro W hW; go_simp; try with_reducible rfl
          simp only [Act.put, List.setIfInBounds_toArray, List.set_cons_zero, List.set_cons_succ]
          refine regE_take (i := 10) (v := ?_) rfl (by kernel_rfl) (by kernel_rfl) (by kernel_rfl) (fun _ _ _ h => h) (by rfl) ?_ ?_
          rotate_left
          · intro W hW; obtain ⟨⟨x0, x1, x2, x3, x4, x5, x6, x7, x8, x9, x10, x11, x12⟩, _, _⟩ := (hbx0.below hW hbx0.lt).thirteen; go_simp; try with_reducible rfl
          simp only [Act.put, List.setIfInBounds_toArray, List.set_cons_zero, List.set_cons_succ]
          refine regE_take (i := 11) (v := ?_) rfl (by kernel_rfl) (by kernel_rfl) (by kernel_rfl) (fun _ _ _ h => h) (by rfl) ?_ ?_
          rotate_left
          · intro W hW; go_simp; try with_reducible rfl
          simp only [Act.put, List.setIfInBounds_toArray, List.set_cons_zero, List.set_cons_succ]
          refine regE_do (i := 7) rfl (by kernel_rfl) (fun K hK => ?_)
          rw [if_pos (by rfl)]
          go_simp
          refine (flag_z _ _ _).mono ?_
          rintro e w' ⟨rfl, rfl⟩
          refine hK.out _ _ hR ?_
          clear hK K
          try simp only [Act.put, List.setIfInBounds_toArray, List.set_cons_zero, List.set_cons_succ]
          refine regE_take (i := 8) (v := ?_) rfl (by kernel_rfl) (by kernel_rfl) (by kernel_rfl) (fun _ _ _ h => h) (by rfl) ?_ ?_
          rotate_left
          · intro W hW; go_simp; try with_reducible rfl
          simp only [Act.put, List.setIfInBounds_toArray, List.set_cons_zero, List.set_cons_succ]
          refine regE_take (i := 12) (v := ?_) rfl (by kernel_rfl) (by kernel_rfl) (by kernel_rfl) (fun _ _ _ h => h) (by rfl) ?_ ?_
          rotate_left
          · intro W hW; go_simp; try with_reducible rfl
          simp only [Act.put, List.setIfInBounds_toArray, List.set_cons_zero, List.set_cons_succ]
          refine regE_do (i := 13) rfl (by kernel_rfl) (fun K hK => ?_)
          rw [if_pos (by rfl)]
          go_simp
          rw [E0.out, HOR.out]
          have hBG := snoc_byteV wr0 (G : Int) (UInt8.ofNat G) (by rw [UInt8.toNat_ofNat']; omega)
          refine hK.out _ _ (hR.alloc _) ?_
          clear hK K
          replace hR := hR.alloc (.cells #[.int .u8 (G : Int)] 5)
          replace hO7 := hO7.alloc (.cells #[.int .u8 (G : Int)] 5)
          generalize hgw : wr0.alloc (.cells #[.int .u8 (G : Int)] 5) = wr1 at *
          clear hgw
          try simp only [Act.put, List.setIfInBounds_toArray, List.set_cons_zero, List.set_cons_succ]
          refine regE_do (i := 14) rfl (by kernel_rfl) (fun K hK => ?_)
          rw [if_pos (by rfl)]
          refine wp_appB w2 _ _ rfl hR _ (2 + n6 + n7) _ _ rfl hO7 _ 1 1 [UInt8.ofNat G] rfl hBG (by omega) ?_
          intro A8 c8 wr2 hO8 hE8
          refine hK.out _ _ hE8 ?_
          clear hK K
          try simp only [Act.put, List.setIfInBounds_toArray, List.set_cons_zero, List.set_cons_succ]
          refine regE_take (i := 15) (v := ?_) rfl (by kernel_rfl) (by kernel_rfl) (by kernel_rfl) (fun _ _ _ h => h) (by rfl) ?_ ?_
          rotate_left
          · intro W hW; go_simp; try with_reducible rfl
          simp only [Act.put, List.setIfInBounds_toArray, List.set_cons_zero, List.set_cons_succ]
          refine regE_done (by kernel_rfl) ?_
          go_wp2_with fail
          go_ret2
          exact ⟨_, _, rfl, own_more hO8 hE.size, hE.trans hE8⟩
end Go.Proofs.Ytcdacnhggpfnaaa

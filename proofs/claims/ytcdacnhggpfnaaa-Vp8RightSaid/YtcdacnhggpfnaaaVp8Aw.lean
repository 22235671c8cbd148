/- The fixed answer of layer 23. -/
import Derived.Test.YtcdacnhggpfnaaaVp8H
import Derived.Test.YtcdacnhggpfnaaaVp8Q
import Derived.Test.YtcdacnhggpfnaaaStr
namespace Go.Proofs.Ytcdacnhggpfnaaa
open Go.RowKit
namespace Aw23
def d0 : V8 := ⟨false, true, 0, true, true, 300, false, 0, false, false, 0, false, 0⟩
def bs : List UInt8 := [144, 128, 129, 44]
def cs : List UInt8 := [144, 128, 129, 45]
theorem e0 : v8Right d0 = true := by decide +kernel
theorem e1 : v8Bytes d0 = bs := by decide +kernel
theorem e2 : vsL bs 301 5 5 = cs := by decide +kernel
theorem e3 : vsE bs 301 5 5 = 0 := by decide +kernel
theorem e4 : vsE bs 32768 0 0 = 6 := by decide +kernel
theorem e5 : vrE [128, 64, 5] = 6 := by decide +kernel
theorem e6 : vrC bs = true := by decide +kernel
theorem e7 : vrC [128, 0] = false := by decide +kernel
theorem aw1 (W : World) : Calls Try.prog 19 #[.agg #[.bool false, .bool true, .int .i64 0, .bool true, .bool true, .int .i64 300, .bool false, .int .i64 0, .bool false, .bool false, .int .i64 0, .bool false, .int .i64 0]] W fun e w' => ∃ A' c', e = .returned (.tuple #[.slice A' 4 c', .int .i64 0]) ∧ Bytes w' A' 4 c' bs ∧ Ext W w' :=
  v8write_B d0 W bs (by unfold v8WL; rw [if_pos e0, e1]) 4 rfl 0 (by unfold v8WE; rw [if_pos e0])
theorem aw2 (W : World) (A : Option Addr) (c : Nat) (h : Bytes W A 5 c (bs ++ [9])) : Calls Try.prog 21 #[.slice A 5 c] W fun e w' => e = .returned (.tuple #[.agg #[.bool false, .bool true, .int .i64 0, .bool true, .bool true, .int .i64 300, .bool false, .int .i64 0, .bool false, .bool false, .int .i64 0, .bool false, .int .i64 0], .int .i64 4, .int .i64 0]) ∧ Ext W w' := by
  obtain ⟨a, b, d⟩ := v8_back e0 [9]
  rw [e1] at a b d
  exact v8read_any A 5 c _ W h (by omega) d0 b 4 d 0 a
theorem aw3 (W : World) (A : Option Addr) (c : Nat) (h : Bytes W A 4 c bs) : Calls Try.prog 23 #[.slice A 4 c, .int .i64 301, .int .i64 5, .int .i64 5] W fun e w' => ∃ A' c', e = .returned (.tuple #[.slice A' 4 c', .int .i64 0]) ∧ Bytes w' A' 4 c' cs ∧ Ext W w' :=
  v8set_any A 4 c bs 301 5 5 W h (by omega) cs e2 0 e3 4 rfl
theorem aw4 (W : World) (A : Option Addr) (c : Nat) (h : Bytes W A 4 c bs) : Calls Try.prog 23 #[.slice A 4 c, .int .i64 32768, .int .i64 0, .int .i64 0] W fun e w' => ∃ A' c', e = .returned (.tuple #[.slice A' 0 c', .int .i64 6]) ∧ Bytes w' A' 0 c' [] ∧ Ext W w' :=
  v8set_any A 4 c bs 32768 0 0 W h (by omega) [] (vsL_fail (by rw [e4]; decide)) 6 e4 0 rfl
theorem aw5 (W : World) (A : Option Addr) (c : Nat) (h : Bytes W A 3 c [128, 64, 5]) : Calls Try.prog 21 #[.slice A 3 c] W fun e w' => e = .returned (.tuple #[.agg #[.bool false, .bool false, .int .i64 0, .bool false, .bool false, .int .i64 0, .bool false, .int .i64 0, .bool false, .bool false, .int .i64 0, .bool false, .int .i64 0], .int .i64 0, .int .i64 6]) ∧ Ext W w' :=
  v8read_any A 3 c _ W h (by omega) v8Zero (vr_fail (by rw [e5]; decide)).1 0 (vr_fail (by rw [e5]; decide)).2 6 e5
theorem aw6 (W : World) (A : Option Addr) (c : Nat) (h : Bytes W A 4 c bs) : Calls Try.prog 26 #[.slice A 4 c] W fun e w' => e = .returned (.bool true) ∧ Ext W w' :=
  v8canon_any A 4 c bs W h (by omega) true e6
theorem aw7 (W : World) (A : Option Addr) (c : Nat) (h : Bytes W A 2 c [128, 0]) : Calls Try.prog 26 #[.slice A 2 c] W fun e w' => e = .returned (.bool false) ∧ Ext W w' :=
  v8canon_any A 2 c [128, 0] W h (by omega) false e7
theorem aw8 (W : World) : Calls Try.prog 25 #[.agg #[.bool false, .bool true, .int .i64 0, .bool true, .bool true, .int .i64 300, .bool false, .int .i64 0, .bool false, .bool false, .int .i64 0, .bool false, .int .i64 0]] W fun e w' => e = .returned (.bool true) ∧ Ext W w' :=
  v8right_any d0 W true e0
theorem aw9 (w : World) : (binOp .eql 45 (.agg #[.bool false, .bool true, .int .i64 0, .bool true, .bool true, .int .i64 300, .bool false, .int .i64 0, .bool false, .bool false, .int .i64 0, .bool false, .int .i64 0]) (.agg #[.bool false, .bool true, .int .i64 0, .bool true, .bool true, .int .i64 300, .bool false, .int .i64 0, .bool false, .bool false, .int .i64 0, .bool false, .int .i64 0])).run Try.prog w = .ok (.bool true) w := eql_vp8 d0 d0 w
end Aw23
open Aw23 in
set_option maxRecDepth 100000 in
set_option maxHeartbeats 2000000 in
theorem awake23 (w : World) : Calls Try.prog 17 #[] w fun e w' => e = .returned (.bool true) ∧ Ext w w' := by
  go_enter Try.func17, Try.ntmps17
  go_wp2_with fail
  have hbx := Blk.new w 45 #[.bool false, .bool true, .int .i64 0, .bool true, .bool true, .int .i64 300, .bool false, .int .i64 0, .bool false, .bool false, .int .i64 0, .bool false, .int .i64 0]
  have hE := (Ext.refl w).alloc (.cells #[.bool false, .bool true, .int .i64 0, .bool true, .bool true, .int .i64 300, .bool false, .int .i64 0, .bool false, .bool false, .int .i64 0, .bool false, .int .i64 0] 45)
  refine (aw1 _).mono ?_
  rintro e w1 ⟨A1, c1, rfl, hB, hE2⟩
  replace hE := hE.trans hE2
  replace hbx := hbx.below hE2 hbx.lt
  clear hE2
  go_wp2_with (first
    | (at_builtin; refine wpList_appB w1 _ _ rfl rfl ((Ext.refl _).alloc _) _ 0 0 _ rfl (own_empty w1) A1 4 c1 _ rfl (hB.alloc _) (by omega) ?_; intro A3 c3 w3 O3 hE3; rw [Nat.zero_add, List.nil_append] at O3)
    | (at_builtin; refine wpList_appB w1 _ _ rfl rfl (hE3.alloc _) A3 4 c3 _ rfl (own_ext O3 ((Ext.refl _).alloc _)) _ 1 1 [9] rfl (Bytes.lit [9] _ 1 rfl rfl (by omega)) (by omega) ?_; intro A4 c4 w4 O4 hE4))
  have hX := Bytes.own O4
  clear O3 O4 hE3
  replace hE := hE.trans hE4
  replace hB := hB.ext hE4
  replace hbx := hbx.below hE4 hbx.lt
  clear hE4
  refine (aw2 _ _ _ hX).mono ?_
  rintro e w5 ⟨rfl, hE5⟩
  clear hX
  replace hE := hE.trans hE5
  replace hB := hB.ext hE5
  replace hbx := hbx.below hE5 hbx.lt
  clear hE5
  have hby := Blk.new w5 45 #[.bool false, .bool true, .int .i64 0, .bool true, .bool true, .int .i64 300, .bool false, .int .i64 0, .bool false, .bool false, .int .i64 0, .bool false, .int .i64 0]
  have hE6 := (Ext.refl w5).alloc (.cells #[.bool false, .bool true, .int .i64 0, .bool true, .bool true, .int .i64 300, .bool false, .int .i64 0, .bool false, .bool false, .int .i64 0, .bool false, .int .i64 0] 45)
  replace hE := hE.trans hE6
  replace hB := hB.ext hE6
  replace hbx := hbx.below hE6 hbx.lt
  clear hE6
  obtain ⟨gx, hgx⟩ : ∃ g, w.heap.size = g := ⟨_, rfl⟩
  obtain ⟨gy, hgy⟩ : ∃ g, w5.heap.size = g := ⟨_, rfl⟩
  go_upto_region 4 with fail
  rw [hgx] at hbx; try rw [hgx]
  rw [hgy] at hby; try rw [hgy]
  generalize hgw : w5.alloc (.cells #[.bool false, .bool true, .int .i64 0, .bool true, .bool true, .int .i64 300, .bool false, .int .i64 0, .bool false, .bool false, .int .i64 0, .bool false, .int .i64 0] 45) = w6 at *
  clear hgw hgx hgy
  go_wp2_with fail
  refine (aw3 _ _ _ hB).mono ?_
  rintro e w7 ⟨A7, c7, rfl, hC, hE2⟩
  replace hE := hE.trans hE2
  replace hB := hB.ext hE2
  replace hbx := hbx.below hE2 hbx.lt
  replace hby := hby.below hE2 hby.lt
  clear hE2
  go_wp2_with fail
  refine (aw4 _ _ _ hB).mono ?_
  rintro e w8 ⟨A8, c8, rfl, -, hE2⟩
  replace hE := hE.trans hE2
  replace hB := hB.ext hE2
  replace hC := hC.ext hE2
  replace hbx := hbx.below hE2 hbx.lt
  replace hby := hby.below hE2 hby.lt
  clear hE2
  go_wp2_with fail
  have hl := Bytes.lit (w := w8) (vs := [.int .u8 128, .int .u8 64, .int .u8 5]) [128, 64, 5] 5 3 rfl rfl (by omega)
  have hE9 := (Ext.refl w8).alloc (.cells #[.int .u8 128, .int .u8 64, .int .u8 5] 5)
  replace hE := hE.trans hE9
  replace hB := hB.ext hE9
  replace hC := hC.ext hE9
  replace hbx := hbx.below hE9 hbx.lt
  replace hby := hby.below hE9 hby.lt
  clear hE9
  refine (aw5 _ _ _ hl).mono ?_
  rintro e w9 ⟨rfl, hE2⟩
  clear hl
  replace hE := hE.trans hE2
  replace hB := hB.ext hE2
  replace hC := hC.ext hE2
  replace hbx := hbx.below hE2 hbx.lt
  replace hby := hby.below hE2 hby.lt
  clear hE2
  have hE9 := (Ext.refl w9).alloc (.cells #[.bool false, .bool false, .int .i64 0, .bool false, .bool false, .int .i64 0, .bool false, .int .i64 0, .bool false, .bool false, .int .i64 0, .bool false, .int .i64 0] 45)
  replace hE := hE.trans hE9
  replace hB := hB.ext hE9
  replace hC := hC.ext hE9
  replace hbx := hbx.below hE9 hbx.lt
  replace hby := hby.below hE9 hby.lt
  clear hE9
  go_upto_region 7 with fail
  generalize w9.alloc (.cells #[.bool false, .bool false, .int .i64 0, .bool false, .bool false, .int .i64 0, .bool false, .int .i64 0, .bool false, .bool false, .int .i64 0, .bool false, .int .i64 0] 45) = w10 at *
  have s1 := run_str hB
  have s2 := run_str hC
  have hb1 : (⟨bs.toArray⟩ : ByteArray) = ⟨#[144, 128, 129, 44]⟩ := rfl
  have hc1 : (⟨cs.toArray⟩ : ByteArray) = ⟨#[144, 128, 129, 45]⟩ := rfl
  rw [hb1] at s1
  rw [hc1] at s2
  clear hb1 hc1
  have q1 := aw9
  obtain ⟨⟨x0, x1, x2, x3, x4, x5, x6, x7, x8, x9, x10, x11, x12⟩, xf, _⟩ := hbx.thirteen
  obtain ⟨⟨y0, y1, y2, y3, y4, y5, y6, y7, y8, y9, y10, y11, y12⟩, yf, _⟩ := hby.thirteen
  go_wp2_with fail
  clear x0 x1 x2 x3 x4 x5 x6 x7 x8 x9 x10 x11 x12 xf y0 y1 y2 y3 y4 y5 y6 y7 y8 y9 y10 y11 y12 yf s1 s2 hC hby
  refine (aw6 _ _ _ hB).mono ?_
  rintro e w11 ⟨rfl, hE2⟩
  replace hE := hE.trans hE2
  replace hbx := hbx.below hE2 hbx.lt
  clear hE2
  go_wp2_with fail
  have hl := Bytes.lit (w := w11) (vs := [.int .u8 128, .int .u8 0]) [128, 0] 5 2 rfl rfl (by omega)
  have hE9 := (Ext.refl w11).alloc (.cells #[.int .u8 128, .int .u8 0] 5)
  replace hE := hE.trans hE9
  replace hbx := hbx.below hE9 hbx.lt
  clear hE9
  refine (aw7 _ _ _ hl).mono ?_
  rintro e w12 ⟨rfl, hE2⟩
  replace hE := hE.trans hE2
  replace hbx := hbx.below hE2 hbx.lt
  clear hE2
  obtain ⟨⟨x0, x1, x2, x3, x4, x5, x6, x7, x8, x9, x10, x11, x12⟩, xf, _⟩ := hbx.thirteen
  go_wp2_with fail
  refine (aw8 _).mono ?_
  rintro e w13 ⟨rfl, hE2⟩
  go_wp2_with fail
  go_ret
  exact ⟨rfl, hE.trans hE2⟩
end Go.Proofs.Ytcdacnhggpfnaaa

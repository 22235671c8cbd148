/- The fixed answer of the statements of layer 5. -/
import Derived.Test.YtiamcdbnhmlhaaaHeadB
namespace Go.Proofs.Ytiamcdbnhmlhaaa
open Go.RowKit
namespace Aw05
def hw : Hd := ⟨false, true, true, 96, 258, 3, 4, [5]⟩
def bs : List UInt8 := [145, 224, 1, 2, 0, 0, 0, 3, 0, 0, 0, 4, 0, 0, 0, 5]
theorem e1 : hBytes hw = bs := by decide +kernel
theorem e2 : hRight hw.typ 1 = true := by decide +kernel
theorem e3 : hE (bs ++ [9]) = 0 ∧ hH (bs ++ [9]) = hw ∧ hN (bs ++ [9]) = 16 := by
  have := hE_bytes hw e2 [9]
  rw [e1] at this
  exact this
theorem aw1 (W : World) (A : Option Addr) (c : Nat) (h : Els e32 W A 1 c [5]) : Calls Try.prog 28 #[.agg #[.bool false, .bool true, .bool true, .int .i64 96, .int .u16 258, .int .u32 3, .int .u32 4, .slice A 1 c]] W fun e w' => ∃ A' c', e = .returned (.tuple #[.slice A' 16 c', .int .i64 0]) ∧ Bytes w' A' 16 c' bs ∧ Ext W w' :=
  hwrite_B hw A c 1 W h e2 bs e1
theorem aw2 (W : World) (A : Option Addr) (c : Nat) (h : Bytes W A 17 c (bs ++ [9])) : Calls Try.prog 31 #[.slice A 17 c] W fun e w' => ∃ A' c', e = .returned (.tuple #[.agg #[.bool false, .bool true, .bool true, .int .i64 96, .int .u16 258, .int .u32 3, .int .u32 4, .slice A' 1 c'], .int .i64 16, .int .i64 0]) ∧ Els e32 w' A' 1 c' [5] ∧ Ext W w' :=
  hread_B A 17 c _ W h hw e3.2.1 16 e3.2.2 0 e3.1
theorem aw3 (W : World) (A : Option Addr) (c : Nat) : Calls Try.prog 30 #[.agg #[.bool false, .bool true, .bool true, .int .i64 96, .int .u16 258, .int .u32 3, .int .u32 4, .slice A 1 c]] W fun e w' => e = .returned (.int .i64 16) ∧ Ext W w' :=
  hsize_any hw A 1 c W true e2
theorem aw4 (W : World) (A : Option Addr) (c : Nat) (A2 : Option Addr) (c2 : Nat) (h : Els e32 W A 1 c [5]) (h2 : Els e32 W A2 1 c2 [5]) : Calls Try.prog 34 #[.agg #[.bool false, .bool true, .bool true, .int .i64 96, .int .u16 258, .int .u32 3, .int .u32 4, .slice A 1 c], .agg #[.bool false, .bool true, .bool true, .int .i64 96, .int .u16 258, .int .u32 3, .int .u32 4, .slice A2 1 c2]] W fun e w' => e = .returned (.bool true) ∧ Ext W w' :=
  rsame_any hw hw A 1 c A2 1 c2 W h h2 true (hSame_self _)
theorem aw5 (W : World) (A : Option Addr) (c : Nat) : Calls Try.prog 33 #[.agg #[.bool false, .bool true, .bool true, .int .i64 96, .int .u16 258, .int .u32 3, .int .u32 4, .slice A 1 c]] W fun e w' => e = .returned (.bool true) ∧ Ext W w' :=
  hright_B hw A 1 c W true e2
end Aw05
open Aw05 in
set_option maxRecDepth 100000 in
set_option maxHeartbeats 2000000 in
theorem awake05 (w : World) : Calls Try.prog 26 #[] w fun e w' => e = .returned (.bool true) ∧ Ext w w' := by
  have hl := Els.lit (E := e32) (w := w) (vs := [.int .u32 5]) [5] 51 1 rfl rfl (by omega)
  have hE := (Ext.refl w).alloc (.cells #[.int .u32 5] 51)
  go_enter Try.func26, Try.ntmps26
  go_wp2_with fail
  have hbx := (Blk.new (w.alloc (.cells #[.int .u32 5] 51)) 54 #[.bool false, .bool true, .bool true, .int .i64 96, .int .u16 258, .int .u32 3, .int .u32 4, .slice (some ⟨w.heap.size, 0, none⟩) 1 1])
  rw [World.size_alloc] at hbx
  replace hE := hE.alloc (.cells #[.bool false, .bool true, .bool true, .int .i64 96, .int .u16 258, .int .u32 3, .int .u32 4, .slice (some ⟨w.heap.size, 0, none⟩) 1 1] 54)
  replace hl := hl.alloc (.cells #[.bool false, .bool true, .bool true, .int .i64 96, .int .u16 258, .int .u32 3, .int .u32 4, .slice (some ⟨w.heap.size, 0, none⟩) 1 1] 54)
  refine (aw1 _ _ _ hl).mono ?_
  rintro e w1 ⟨A1, c1, rfl, hB, hE2⟩
  replace hE := hE.trans hE2
  replace hl := hl.ext hE2
  replace hbx := hbx.below hE2 hbx.lt
  clear hE2
  go_wp2_with (first
    | (at_builtin; refine wpList_appB w1 _ _ rfl rfl ((Ext.refl _).alloc _) _ 0 0 _ rfl (own_empty w1) A1 16 c1 _ rfl (hB.alloc _) (by omega) ?_; intro A2 c2 w2 O2 hE2; rw [Nat.zero_add, List.nil_append] at O2)
    | (at_builtin; refine wpList_appB w1 _ _ rfl rfl (hE2.alloc _) A2 16 c2 bs rfl (O2.alloc _) _ 1 1 _ rfl (Bytes.lit (w := w2) (vs := [.int .u8 9]) [9] 5 1 rfl rfl (by omega)) (by omega) ?_; intro A3 c3 w3 O3 hE3))
  have hB3 := Bytes.own O3
  clear hE2 O2 O3
  replace hE := hE.trans hE3
  replace hl := hl.ext hE3
  replace hB := hB.ext hE3
  replace hbx := hbx.below hE3 hbx.lt
  clear hE3
  refine (aw2 _ _ _ hB3).mono ?_
  rintro e w4 ⟨A4, c4, rfl, hX, hE4⟩
  replace hE := hE.trans hE4
  replace hl := hl.ext hE4
  replace hB := hB.ext hE4
  replace hbx := hbx.below hE4 hbx.lt
  clear hE4 hB3
  obtain ⟨⟨u0, u1, u2, u3, u4, u5, u6, u7⟩, v7, hl7⟩ := hbx.eight
  have hby := Blk.new w4 54 #[.bool false, .bool true, .bool true, .int .i64 96, .int .u16 258, .int .u32 3, .int .u32 4, .slice A4 1 c4]
  have hE5 := (Ext.refl w4).alloc (.cells #[.bool false, .bool true, .bool true, .int .i64 96, .int .u16 258, .int .u32 3, .int .u32 4, .slice A4 1 c4] 54)
  replace hE := hE.trans hE5
  replace hl := hl.ext hE5
  replace hB := hB.ext hE5
  replace hX := hX.ext hE5
  replace hbx := hbx.below hE5 hbx.lt
  clear hE5
  go_wp2_with fail
  refine (aw3 _ _ _).mono ?_
  rintro e w5 ⟨rfl, hE5⟩
  clear u0 u1 u2 u3 u4 u5 u6 u7 v7 hl7
  replace hE := hE.trans hE5
  replace hl := hl.ext hE5
  replace hB := hB.ext hE5
  replace hX := hX.ext hE5
  replace hbx := hbx.below hE5 hbx.lt
  replace hby := hby.below hE5 hby.lt
  clear hE5
  obtain ⟨⟨u0, u1, u2, u3, u4, u5, u6, u7⟩, v7, hl7⟩ := hbx.eight
  obtain ⟨⟨q0, q1, q2, q3, q4, q5, q6, q7⟩, r7, hq7⟩ := hby.eight
  have s1 := run_str hB
  have hbsq : (⟨bs.toArray⟩ : ByteArray) = ⟨#[145, 224, 1, 2, 0, 0, 0, 3, 0, 0, 0, 4, 0, 0, 0, 5]⟩ := rfl
  go_wp2_with fail
  refine (aw4 _ _ _ _ _ hX hl).mono ?_
  rintro e w6 ⟨rfl, hE6⟩
  clear u0 u1 u2 u3 u4 u5 u6 u7 v7 hl7 q0 q1 q2 q3 q4 q5 q6 q7 r7 hq7
  replace hE := hE.trans hE6
  replace hbx := hbx.below hE6 hbx.lt
  clear hE6
  obtain ⟨⟨u0, u1, u2, u3, u4, u5, u6, u7⟩, v7, hl7⟩ := hbx.eight
  go_wp2_with fail
  refine (aw5 _ _ _).mono ?_
  rintro e w7 ⟨rfl, hE7⟩
  go_wp2_with fail
  go_ret
  exact ⟨rfl, hE.trans hE7⟩
end Go.Proofs.Ytiamcdbnhmlhaaa

/- The fixed answer of layer 11. -/
import Derived.Test.YthepndimhiieiaaTrainD
import Derived.Test.YthepndimhiieiaaAppB
namespace Go.Proofs.Ythepndimhiieiaa
open Go.RowKit
namespace Aw11
def a : List UInt8 := [129, 201, 0, 1, 1, 2, 3, 4]
def b : List UInt8 := [160, 203, 0, 1, 0, 0, 0, 4]
theorem e1 : clOK 201 1 4 ((0 : Nat) : Int) = true ∧ clBytes 201 1 [1, 2, 3, 4] 0 = a := by decide +kernel
theorem e2 : clOK 203 0 0 ((4 : Nat) : Int) = true ∧ clBytes 203 0 [] 4 = b := by decide +kernel
theorem e3 : sE (a ++ b) = 0 ∧ sL (a ++ b) = [a, b] := by decide +kernel
theorem e4 : sE (b ++ a) = 5 ∧ sL (b ++ a) = [] := by decide +kernel
theorem e5 : oP b = true ∧ oC b = 0 ∧ oT b = 203 ∧ oS b = 8 ∧ oN b = 4 ∧ oE b = 0 ∧ oB b = [] := by decide +kernel
theorem aw1 (W : World) (A : Option Addr) (c : Nat) (h : Bytes W A 4 c [1, 2, 3, 4]) : Calls Try.prog 37 #[.int .i64 201, .int .i64 1, .slice A 4 c, .int .i64 0] W fun e w' => ∃ A' c', e = .returned (.tuple #[.slice A' 8 c', .int .i64 0]) ∧ Bytes w' A' 8 c' a ∧ Ext W w' :=
  tclose_ok 201 1 0 A 4 c [1, 2, 3, 4] W h e1.1 a e1.2
theorem aw2 (W : World) : Calls Try.prog 37 #[.int .i64 203, .int .i64 0, .slice none 0 0, .int .i64 4] W fun e w' => ∃ A' c', e = .returned (.tuple #[.slice A' 8 c', .int .i64 0]) ∧ Bytes w' A' 8 c' b ∧ Ext W w' :=
  tclose_ok 203 0 4 none 0 0 [] W (Bytes.nil W) e2.1 b e2.2
theorem aw3 (W : World) (A : Option Addr) (c : Nat) (h : Bytes W A 16 c (a ++ b)) : Calls Try.prog 40 #[.slice A 16 c] W fun e w' => ∃ A' c', e = .returned (.tuple #[.slice A' 2 c', .int .i64 0]) ∧ Slices w' A' 2 c' [a, b] ∧ Ext W w' :=
  tsplit_any A 16 c (a ++ b) W h (by omega) 0 [a, b] e3.1 e3.2
theorem aw4 (W : World) (A : Option Addr) (c : Nat) (h : Bytes W A 16 c (b ++ a)) : Calls Try.prog 40 #[.slice A 16 c] W fun e w' => ∃ A' c', e = .returned (.tuple #[.slice A' 0 c', .int .i64 5]) ∧ Slices w' A' 0 c' [] ∧ Ext W w' :=
  tsplit_any A 16 c (b ++ a) W h (by omega) 5 [] e4.1 e4.2
theorem aw5 (W : World) (A : Option Addr) (c : Nat) (h : Bytes W A 8 c b) : Calls Try.prog 35 #[.slice A 8 c] W fun e w' => ∃ A' c', e = .returned (.tuple #[.agg #[.bool true, .int .i64 0, .int .i64 203, .int .i64 8], .slice A' 0 c', .int .i64 4, .int .i64 0]) ∧ Bytes w' A' 0 c' [] ∧ Ext W w' :=
  topen_B A 8 c b W h (by omega) true 0 203 8 4 0 [] 0 e5.1 e5.2.1 e5.2.2.1 e5.2.2.2.1 e5.2.2.2.2.1 e5.2.2.2.2.2.1 e5.2.2.2.2.2.2 rfl
end Aw11
open Aw11 in
set_option maxRecDepth 100000 in
set_option maxHeartbeats 2000000 in
theorem awake11 (w : World) : Calls Try.prog 34 #[] w fun e w' => e = .returned (.bool true) ∧ Ext w w' := by
  have hl := Bytes.lit (w := w) (vs := [.int .u8 1, .int .u8 2, .int .u8 3, .int .u8 4]) [1, 2, 3, 4] 5 4 rfl rfl (by omega)
  have hE := (Ext.refl w).alloc (.cells #[.int .u8 1, .int .u8 2, .int .u8 3, .int .u8 4] 5)
  go_enter Try.func34, Try.ntmps34
  go_wp2_with fail
  refine (aw1 _ _ _ hl).mono ?_
  rintro e w1 ⟨A1, c1, rfl, hB1, hE2⟩
  replace hE := hE.trans hE2
  clear hE2 hl
  go_wp2_with fail
  refine (aw2 _).mono ?_
  rintro e w2 ⟨A2, c2, rfl, hB2, hE2⟩
  replace hE := hE.trans hE2
  replace hB1 := hB1.ext hE2
  clear hE2
  go_wp2_with (first
    | (at_builtin; refine wpList_appB w2 _ _ rfl rfl ((Ext.refl _).alloc _) _ 0 0 _ rfl (own_empty w2) A1 8 c1 _ rfl (hB1.alloc _) (by omega) ?_; intro A3 c3 w3 O3 hE3; rw [Nat.zero_add, List.nil_append] at O3)
    | (at_builtin; refine wpList_appB w2 _ _ rfl rfl hE3 A3 8 c3 a rfl O3 A2 8 c2 b rfl (hB2.ext hE3) (by omega) ?_; intro A4 c4 w4 O4 hE4))
  have hX := Bytes.own O4
  clear O3 O4 hE3
  replace hE := hE.trans hE4
  replace hB1 := hB1.ext hE4
  replace hB2 := hB2.ext hE4
  clear hE4
  refine (aw3 _ _ _ hX).mono ?_
  rintro e w5 ⟨A5, c5, rfl, hS, hE5⟩
  clear hX
  replace hE := hE.trans hE5
  replace hB1 := hB1.ext hE5
  replace hB2 := hB2.ext hE5
  clear hE5
  go_wp2_with (first
    | (at_builtin; refine wpList_appB w5 _ _ rfl rfl ((Ext.refl _).alloc _) _ 0 0 _ rfl (own_empty w5) A2 8 c2 _ rfl (hB2.alloc _) (by omega) ?_; intro A6 c6 w6 O6 hE6; rw [Nat.zero_add, List.nil_append] at O6)
    | (at_builtin; refine wpList_appB w5 _ _ rfl rfl hE6 A6 8 c6 b rfl O6 A1 8 c1 a rfl (hB1.ext hE6) (by omega) ?_; intro A7 c7 w7 O7 hE7))
  have hX := Bytes.own O7
  clear O6 O7 hE6
  replace hE := hE.trans hE7
  replace hB1 := hB1.ext hE7
  replace hB2 := hB2.ext hE7
  replace hS := hS.ext hE7
  clear hE7
  refine (aw4 _ _ _ hX).mono ?_
  rintro e w8 ⟨A8, c8, rfl, _, hE8⟩
  clear hX
  replace hE := hE.trans hE8
  replace hB1 := hB1.ext hE8
  replace hB2 := hB2.ext hE8
  replace hS := hS.ext hE8
  clear hE8
  go_wp2_with fail
  refine (aw5 _ _ _ hB2).mono ?_
  rintro e w9 ⟨A9, c9, rfl, hB9, hE9⟩
  replace hE := hE.trans hE9
  replace hB1 := hB1.ext hE9
  replace hS := hS.ext hE9
  clear hE9 hB2
  have hbk := Blk.new w9 62 #[.bool true, .int .i64 0, .int .i64 203, .int .i64 8]
  have hE5 := (Ext.refl w9).alloc (.cells #[.bool true, .int .i64 0, .int .i64 203, .int .i64 8] 62)
  replace hE := hE.trans hE5
  replace hB1 := hB1.ext hE5
  replace hS := hS.ext hE5
  clear hE5
  go_upto_region 6 with fail
  obtain ⟨gk, hgk⟩ : ∃ g, w9.heap.size = g := ⟨_, rfl⟩
  rw [hgk] at hbk ⊢
  generalize hgw : w9.alloc (.cells #[.bool true, .int .i64 0, .int .i64 203, .int .i64 8] 62) = wa at *
  clear hgw hgk
  obtain ⟨g5, o5, rfl, hg5, hget⟩ := hS.get (by omega)
  obtain ⟨A10, n10, c10, hcell, hB10⟩ := hget 0 (by decide)
  have hl10 := hB10.len
  obtain rfl : n10 = 8 := hl10.symm
  have hB10 : Bytes wa A10 8 c10 a := hB10
  clear hget hl10
  have hba : (⟨a.toArray⟩ : ByteArray) = ⟨#[129, 201, 0, 1, 1, 2, 3, 4]⟩ := rfl
  refine regE_start (by kernel_rfl) ?_
  have hR := (Ext.refl wa).drew
  generalize hgw : (wa).drew = wr0 at *
  clear hgw
  refine regE_take (i := 0) (v := ?_) rfl (by kernel_rfl) (by kernel_rfl) (by kernel_rfl) (fun _ _ _ h => h) (by rfl) ?_ ?_
  rotate_left
  · intro W hW; go_simp; try with_reducible rfl
  simp only [Act.put, List.setIfInBounds_toArray, List.set_cons_zero, List.set_cons_succ]
  refine regE_take (i := 1) (v := ?_) rfl (by kernel_rfl) (by kernel_rfl) (by kernel_rfl) (fun _ _ _ h => h) (by rfl) ?_ ?_
  rotate_left
  · intro W hW; go_simp; try with_reducible rfl
  simp only [Act.put, List.setIfInBounds_toArray, List.set_cons_zero, List.set_cons_succ]
  refine regE_take (i := 2) (v := ?_) rfl (by kernel_rfl) (by kernel_rfl) (by kernel_rfl) (fun _ _ _ h => h) (by rfl) ?_ ?_
  rotate_left
  · intro W hW; go_simp; try with_reducible rfl
  simp only [Act.put, List.setIfInBounds_toArray, List.set_cons_zero, List.set_cons_succ]
  refine regE_take (i := 3) (v := ?_) rfl (by kernel_rfl) (by kernel_rfl) (by kernel_rfl) (fun _ _ _ h => h) (by rfl) ?_ ?_
  rotate_left
  · intro W hW; go_simp; try with_reducible rfl
  simp only [Act.put, List.setIfInBounds_toArray, List.set_cons_zero, List.set_cons_succ]
  refine regE_take (i := 4) (v := ?_) rfl (by kernel_rfl) (by kernel_rfl) (by kernel_rfl) (fun _ _ _ h => h) (by rfl) ?_ ?_
  rotate_left
  · intro W hW; go_simp; try with_reducible rfl
  simp only [Act.put, List.setIfInBounds_toArray, List.set_cons_zero, List.set_cons_succ]
  refine regE_take (i := 5) (v := ?_) rfl (by kernel_rfl) (by kernel_rfl) (by kernel_rfl) (fun _ _ _ h => h) (by rfl) ?_ ?_
  rotate_left
  · intro W hW; go_simp; try with_reducible rfl
  simp only [Act.put, List.setIfInBounds_toArray, List.set_cons_zero, List.set_cons_succ]
  refine regE_take (i := 6) (v := ?_) rfl (by kernel_rfl) (by kernel_rfl) (by kernel_rfl) (fun _ _ _ h => h) (by rfl) ?_ ?_
  rotate_left
  · intro W hW; go_simp; try with_reducible rfl
  simp only [Act.put, List.setIfInBounds_toArray, List.set_cons_zero, List.set_cons_succ]
  refine regE_take (i := 7) (v := ?_) rfl (by kernel_rfl) (by kernel_rfl) (by kernel_rfl) (fun _ _ _ h => h) (by rfl) ?_ ?_
  rotate_left
  · intro W hW; go_simp; try with_reducible rfl
  simp only [Act.put, List.setIfInBounds_toArray, List.set_cons_zero, List.set_cons_succ]
  refine regE_take (i := 8) (v := ?_) rfl (by kernel_rfl) (by kernel_rfl) (by kernel_rfl) (fun _ _ _ h => h) (by rfl) ?_ ?_
  rotate_left
  · intro W hW; go_simp; try with_reducible rfl
  simp only [Act.put, List.setIfInBounds_toArray, List.set_cons_zero, List.set_cons_succ]
  refine regE_take (i := 9) (v := ?_) rfl (by kernel_rfl) (by kernel_rfl) (by kernel_rfl) (fun _ _ _ h => h) (by rfl) ?_ ?_
  rotate_left
  · intro W hW; go_simp; try with_reducible rfl
  simp only [Act.put, List.setIfInBounds_toArray, List.set_cons_zero, List.set_cons_succ]
  refine regE_take (i := 10) (v := ?_) rfl (by kernel_rfl) (by kernel_rfl) (by kernel_rfl) (fun _ _ _ h => h) (by rfl) ?_ ?_
  rotate_left
  · intro W hW; go_simp; try with_reducible rfl
  simp only [Act.put, List.setIfInBounds_toArray, List.set_cons_zero, List.set_cons_succ]
  refine regE_take (i := 11) (v := ?_) rfl (by kernel_rfl) (by kernel_rfl) (by kernel_rfl) (fun _ _ _ h => h) (by rfl) ?_ ?_
  rotate_left
  · intro W hW; go_simp; try with_reducible rfl
  simp only [Act.put, List.setIfInBounds_toArray, List.set_cons_zero, List.set_cons_succ]
  refine regE_take (i := 12) (v := ?_) rfl (by kernel_rfl) (by kernel_rfl) (by kernel_rfl) (fun _ _ _ h => h) (by rfl) ?_ ?_
  rotate_left
  · intro W hW; go_simp; try with_reducible rfl
  simp only [Act.put, List.setIfInBounds_toArray, List.set_cons_zero, List.set_cons_succ]
  refine regE_take (i := 13) (v := ?_) rfl (by kernel_rfl) (by kernel_rfl) (by kernel_rfl) (fun _ _ _ h => h) (by rfl) ?_ ?_
  rotate_left
  · intro W hW; go_simp; try with_reducible rfl
  simp only [Act.put, List.setIfInBounds_toArray, List.set_cons_zero, List.set_cons_succ]
  refine regE_take (i := 14) (v := ?_) rfl (by kernel_rfl) (by kernel_rfl) (by kernel_rfl) (fun _ _ _ h => h) (by rfl) ?_ ?_
  rotate_left
  · intro W hW; go_simp; try with_reducible rfl
  simp only [Act.put, List.setIfInBounds_toArray, List.set_cons_zero, List.set_cons_succ]
  refine regE_take (i := 15) (v := ?_) rfl (by kernel_rfl) (by kernel_rfl) (by kernel_rfl) (fun _ _ _ h => h) (by rfl) ?_ ?_
  rotate_left
  · intro W hW; go_simp; try with_reducible rfl
  simp only [Act.put, List.setIfInBounds_toArray, List.set_cons_zero, List.set_cons_succ]
  refine regE_take (i := 16) (v := ?_) rfl (by kernel_rfl) (by kernel_rfl) (by kernel_rfl) (fun _ _ _ h => h) (by rfl) ?_ ?_
  rotate_left
  · intro W hW; go_simp; try with_reducible rfl
  simp only [Act.put, List.setIfInBounds_toArray, List.set_cons_zero, List.set_cons_succ]
  refine regE_take (i := 17) (v := ?_) rfl (by kernel_rfl) (by kernel_rfl) (by kernel_rfl) (fun _ _ _ h => h) (by rfl) ?_ ?_
  rotate_left
  · intro W hW; go_simp; try with_reducible rfl
  simp only [Act.put, List.setIfInBounds_toArray, List.set_cons_zero, List.set_cons_succ]
  refine regE_take (i := 18) (v := ?_) rfl (by kernel_rfl) (by kernel_rfl) (by kernel_rfl) (fun _ _ _ h => h) (by rfl) ?_ ?_
  rotate_left
  · intro W hW; go_simp; try with_reducible rfl
  simp only [Act.put, List.setIfInBounds_toArray, List.set_cons_zero, List.set_cons_succ]
  refine regE_take (i := 19) (v := ?_) rfl (by kernel_rfl) (by kernel_rfl) (by kernel_rfl) (fun _ _ _ h => h) (by rfl) ?_ ?_
  rotate_left
  · intro W hW; go_simp; try with_reducible rfl
  simp only [Act.put, List.setIfInBounds_toArray, List.set_cons_zero, List.set_cons_succ]
  refine regE_take (i := 20) (v := ?_) rfl (by kernel_rfl) (by kernel_rfl) (by kernel_rfl) (fun _ _ _ h => h) (by rfl) ?_ ?_
  rotate_left
  · intro W hW; go_simp; try with_reducible rfl
  simp only [Act.put, List.setIfInBounds_toArray, List.set_cons_zero, List.set_cons_succ]
  refine regE_take (i := 21) (v := ?_) rfl (by kernel_rfl) (by kernel_rfl) (by kernel_rfl) (fun _ _ _ h => h) (by rfl) ?_ ?_
  rotate_left
  · intro W hW; go_simp; try with_reducible rfl
  simp only [Act.put, List.setIfInBounds_toArray, List.set_cons_zero, List.set_cons_succ]
  refine regE_take (i := 22) (v := ?_) rfl (by kernel_rfl) (by kernel_rfl) (by kernel_rfl) (fun _ _ _ h => h) (by rfl) ?_ ?_
  rotate_left
  · intro W hW; go_simp; try with_reducible rfl
  simp only [Act.put, List.setIfInBounds_toArray, List.set_cons_zero, List.set_cons_succ]
  refine regE_take (i := 23) (v := ?_) rfl (by kernel_rfl) (by kernel_rfl) (by kernel_rfl) (fun _ _ _ h => h) (by rfl) ?_ ?_
  rotate_left
  · intro W hW; go_simp; try with_reducible rfl
  simp only [Act.put, List.setIfInBounds_toArray, List.set_cons_zero, List.set_cons_succ]
  refine regE_take (i := 24) (v := ?_) rfl (by kernel_rfl) (by kernel_rfl) (by kernel_rfl) (fun _ _ _ h => h) (by rfl) ?_ ?_
  rotate_left
  · intro W hW; go_simp; try with_reducible rfl
  simp only [Act.put, List.setIfInBounds_toArray, List.set_cons_zero, List.set_cons_succ]
  refine regE_take (i := 25) (v := ?_) rfl (by kernel_rfl) (by kernel_rfl) (by kernel_rfl) (fun _ _ _ h => h) (by rfl) ?_ ?_
  rotate_left
  · intro W hW; go_simp; try with_reducible rfl
  simp only [Act.put, List.setIfInBounds_toArray, List.set_cons_zero, List.set_cons_succ]
  refine regE_take (i := 26) (v := ?_) rfl (by kernel_rfl) (by kernel_rfl) (by kernel_rfl) (fun _ _ _ h => h) (by rfl) ?_ ?_
  rotate_left
  · intro W hW; have s1 := (hW.cell (p := ⟨g5, o5, none⟩) hg5).trans hcell; go_simp; try with_reducible rfl
  simp only [Act.put, List.setIfInBounds_toArray, List.set_cons_zero, List.set_cons_succ]
  refine regE_take (i := 27) (v := ?_) rfl (by kernel_rfl) (by kernel_rfl) (by kernel_rfl) (fun _ _ _ h => h) (by rfl) ?_ ?_
  rotate_left
  · intro W hW; have s1 := run_str (hB10.ext hW); go_simp; try with_reducible rfl
  simp only [Act.put, List.setIfInBounds_toArray, List.set_cons_zero, List.set_cons_succ]
  refine regE_take (i := 28) (v := ?_) rfl (by kernel_rfl) (by kernel_rfl) (by kernel_rfl) (fun _ _ _ h => h) (by rfl) ?_ ?_
  rotate_left
  · intro W hW; go_simp; try with_reducible rfl
  simp only [Act.put, List.setIfInBounds_toArray, List.set_cons_zero, List.set_cons_succ]
  refine regE_take (i := 29) (v := ?_) rfl (by kernel_rfl) (by kernel_rfl) (by kernel_rfl) (fun _ _ _ h => h) (by rfl) ?_ ?_
  rotate_left
  · intro W hW; have s1 := run_str (hB1.ext hW); go_simp; try with_reducible rfl
  simp only [Act.put, List.setIfInBounds_toArray, List.set_cons_zero, List.set_cons_succ]
  refine regE_take (i := 30) (v := ?_) rfl (by kernel_rfl) (by kernel_rfl) (by kernel_rfl) (fun _ _ _ h => h) (by rfl) ?_ ?_
  rotate_left
  · intro W hW; go_simp; try with_reducible rfl
  simp only [Act.put, List.setIfInBounds_toArray, List.set_cons_zero, List.set_cons_succ]
  refine regE_take (i := 31) (v := ?_) rfl (by kernel_rfl) (by kernel_rfl) (by kernel_rfl) (fun _ _ _ h => h) (by rfl) ?_ ?_
  rotate_left
  · intro W hW; go_simp; try with_reducible rfl
  simp only [Act.put, List.setIfInBounds_toArray, List.set_cons_zero, List.set_cons_succ]
  refine regE_take (i := 32) (v := ?_) rfl (by kernel_rfl) (by kernel_rfl) (by kernel_rfl) (fun _ _ _ h => h) (by rfl) ?_ ?_
  rotate_left
  · intro W hW; go_simp; try with_reducible rfl
  simp only [Act.put, List.setIfInBounds_toArray, List.set_cons_zero, List.set_cons_succ]
  refine regE_take (i := 33) (v := ?_) rfl (by kernel_rfl) (by kernel_rfl) (by kernel_rfl) (fun _ _ _ h => h) (by rfl) ?_ ?_
  rotate_left
  · intro W hW; go_simp; try with_reducible rfl
  simp only [Act.put, List.setIfInBounds_toArray, List.set_cons_zero, List.set_cons_succ]
  refine regE_take (i := 34) (v := ?_) rfl (by kernel_rfl) (by kernel_rfl) (by kernel_rfl) (fun _ _ _ h => h) (by rfl) ?_ ?_
  rotate_left
  · intro W hW; have s1 := run_str (hB1.ext hW); go_simp; try with_reducible rfl
  simp only [Act.put, List.setIfInBounds_toArray, List.set_cons_zero, List.set_cons_succ]
  refine regE_take (i := 35) (v := ?_) rfl (by kernel_rfl) (by kernel_rfl) (by kernel_rfl) (fun _ _ _ h => h) (by rfl) ?_ ?_
  rotate_left
  · intro W hW; go_simp; try with_reducible rfl
  simp only [Act.put, List.setIfInBounds_toArray, List.set_cons_zero, List.set_cons_succ]
  refine regE_take (i := 36) (v := ?_) rfl (by kernel_rfl) (by kernel_rfl) (by kernel_rfl) (fun _ _ _ h => h) (by rfl) ?_ ?_
  rotate_left
  · intro W hW; go_simp; try with_reducible rfl
  simp only [Act.put, List.setIfInBounds_toArray, List.set_cons_zero, List.set_cons_succ]
  refine regE_take (i := 37) (v := ?_) rfl (by kernel_rfl) (by kernel_rfl) (by kernel_rfl) (fun _ _ _ h => h) (by rfl) ?_ ?_
  rotate_left
  · intro W hW; go_simp; try with_reducible rfl
  simp only [Act.put, List.setIfInBounds_toArray, List.set_cons_zero, List.set_cons_succ]
  refine regE_take (i := 38) (v := ?_) rfl (by kernel_rfl) (by kernel_rfl) (by kernel_rfl) (fun _ _ _ h => h) (by rfl) ?_ ?_
  rotate_left
  · intro W hW; go_simp; try with_reducible rfl
  simp only [Act.put, List.setIfInBounds_toArray, List.set_cons_zero, List.set_cons_succ]
  refine regE_take (i := 39) (v := ?_) rfl (by kernel_rfl) (by kernel_rfl) (by kernel_rfl) (fun _ _ _ h => h) (by rfl) ?_ ?_
  rotate_left
  · intro W hW; obtain ⟨⟨u0, u1, u2, u3⟩, _, _⟩ := (hbk.below hW hbk.lt).four; go_simp; try with_reducible rfl
  simp only [Act.put, List.setIfInBounds_toArray, List.set_cons_zero, List.set_cons_succ]
  refine regE_take (i := 40) (v := ?_) rfl (by kernel_rfl) (by kernel_rfl) (by kernel_rfl) (fun _ _ _ h => h) (by rfl) ?_ ?_
  rotate_left
  · intro W hW; go_simp; try with_reducible rfl
  simp only [Act.put, List.setIfInBounds_toArray, List.set_cons_zero, List.set_cons_succ]
  refine regE_take (i := 41) (v := ?_) rfl (by kernel_rfl) (by kernel_rfl) (by kernel_rfl) (fun _ _ _ h => h) (by rfl) ?_ ?_
  rotate_left
  · intro W hW; go_simp; try with_reducible rfl
  simp only [Act.put, List.setIfInBounds_toArray, List.set_cons_zero, List.set_cons_succ]
  refine regE_take (i := 42) (v := ?_) rfl (by kernel_rfl) (by kernel_rfl) (by kernel_rfl) (fun _ _ _ h => h) (by rfl) ?_ ?_
  rotate_left
  · intro W hW; go_simp; try with_reducible rfl
  simp only [Act.put, List.setIfInBounds_toArray, List.set_cons_zero, List.set_cons_succ]
  refine regE_take (i := 43) (v := ?_) rfl (by kernel_rfl) (by kernel_rfl) (by kernel_rfl) (fun _ _ _ h => h) (by rfl) ?_ ?_
  rotate_left
  · intro W hW; obtain ⟨⟨u0, u1, u2, u3⟩, _, _⟩ := (hbk.below hW hbk.lt).four; go_simp; try with_reducible rfl
  simp only [Act.put, List.setIfInBounds_toArray, List.set_cons_zero, List.set_cons_succ]
  refine regE_take (i := 44) (v := ?_) rfl (by kernel_rfl) (by kernel_rfl) (by kernel_rfl) (fun _ _ _ h => h) (by rfl) ?_ ?_
  rotate_left
  · intro W hW; go_simp; try with_reducible rfl
  simp only [Act.put, List.setIfInBounds_toArray, List.set_cons_zero, List.set_cons_succ]
  refine regE_take (i := 45) (v := ?_) rfl (by kernel_rfl) (by kernel_rfl) (by kernel_rfl) (fun _ _ _ h => h) (by rfl) ?_ ?_
  rotate_left
  · intro W hW; go_simp; try with_reducible rfl
  simp only [Act.put, List.setIfInBounds_toArray, List.set_cons_zero, List.set_cons_succ]
  refine regE_take (i := 46) (v := ?_) rfl (by kernel_rfl) (by kernel_rfl) (by kernel_rfl) (fun _ _ _ h => h) (by rfl) ?_ ?_
  rotate_left
  · intro W hW; go_simp; try with_reducible rfl
  simp only [Act.put, List.setIfInBounds_toArray, List.set_cons_zero, List.set_cons_succ]
  refine regE_take (i := 47) (v := ?_) rfl (by kernel_rfl) (by kernel_rfl) (by kernel_rfl) (fun _ _ _ h => h) (by rfl) ?_ ?_
  rotate_left
  · intro W hW; go_simp; try with_reducible rfl
  simp only [Act.put, List.setIfInBounds_toArray, List.set_cons_zero, List.set_cons_succ]
  refine regE_take (i := 48) (v := ?_) rfl (by kernel_rfl) (by kernel_rfl) (by kernel_rfl) (fun _ _ _ h => h) (by rfl) ?_ ?_
  rotate_left
  · intro W hW; go_simp; try with_reducible rfl
  simp only [Act.put, List.setIfInBounds_toArray, List.set_cons_zero, List.set_cons_succ]
  refine regE_take (i := 49) (v := ?_) rfl (by kernel_rfl) (by kernel_rfl) (by kernel_rfl) (fun _ _ _ h => h) (by rfl) ?_ ?_
  rotate_left
  · intro W hW; go_simp; try with_reducible rfl
  simp only [Act.put, List.setIfInBounds_toArray, List.set_cons_zero, List.set_cons_succ]
  refine regE_take (i := 50) (v := ?_) rfl (by kernel_rfl) (by kernel_rfl) (by kernel_rfl) (fun _ _ _ h => h) (by rfl) ?_ ?_
  rotate_left
  · intro W hW; go_simp; try with_reducible rfl
  simp only [Act.put, List.setIfInBounds_toArray, List.set_cons_zero, List.set_cons_succ]
  refine regE_take (i := 51) (v := ?_) rfl (by kernel_rfl) (by kernel_rfl) (by kernel_rfl) (fun _ _ _ h => h) (by rfl) ?_ ?_
  rotate_left
  · intro W hW; go_simp; try with_reducible rfl
  simp only [Act.put, List.setIfInBounds_toArray, List.set_cons_zero, List.set_cons_succ]
  refine regE_take (i := 52) (v := ?_) rfl (by kernel_rfl) (by kernel_rfl) (by kernel_rfl) (fun _ _ _ h => h) (by rfl) ?_ ?_
  rotate_left
  · intro W hW; go_simp; try with_reducible rfl
  simp only [Act.put, List.setIfInBounds_toArray, List.set_cons_zero, List.set_cons_succ]
  refine regE_take (i := 53) (v := ?_) rfl (by kernel_rfl) (by kernel_rfl) (by kernel_rfl) (fun _ _ _ h => h) (by rfl) ?_ ?_
  rotate_left
  · intro W hW; go_simp; try with_reducible rfl
  simp only [Act.put, List.setIfInBounds_toArray, List.set_cons_zero, List.set_cons_succ]
  refine regE_take (i := 54) (v := ?_) rfl (by kernel_rfl) (by kernel_rfl) (by kernel_rfl) (fun _ _ _ h => h) (by rfl) ?_ ?_
  rotate_left
  · intro W hW; go_simp; try with_reducible rfl
  simp only [Act.put, List.setIfInBounds_toArray, List.set_cons_zero, List.set_cons_succ]
  refine regE_take (i := 55) (v := ?_) rfl (by kernel_rfl) (by kernel_rfl) (by kernel_rfl) (fun _ _ _ h => h) (by rfl) ?_ ?_
  rotate_left
  · intro W hW; go_simp; try with_reducible rfl
  simp only [Act.put, List.setIfInBounds_toArray, List.set_cons_zero]
  refine regE_done (by kernel_rfl) ?_
  go_wp2_with fail
  go_ret
  exact ⟨rfl, hE.trans hR⟩
end Go.Proofs.Ythepndimhiieiaa

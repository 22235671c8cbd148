/- The fixed answer of the statements of layer 10; CommonRight: the walk. -/
import Derived.Test.YtiamcdbnhmlhaaaComRef
import Derived.Test.YtiamcdbnhmlhaaaAppB
namespace Go.Proofs.Ytiamcdbnhmlhaaa
open Go.RowKit
namespace Aw10
theorem aw1 (W : World) : Calls Try.prog 16 #[.agg #[.bool true, .int .i64 3, .int .i64 201, .int .i64 8]] W fun e w' => ∃ A k, e = .returned (.tuple #[.slice A 4 k, .int .i64 0]) ∧ Bytes w' A 4 k [163, 201, 0, 1] ∧ Ext W w' := by
  have h := cwrite_yes true 3 201 8 W (by decide)
  rwa [show cBytes true 3 201 8 = [163, 201, 0, 1] by decide] at h
theorem aw2 (W : World) (A : Option Addr) (c : Nat) (hb : Bytes W A 9 c [163, 201, 0, 1, 1, 2, 3, 4, 5]) : Calls Try.prog 18 #[.slice A 9 c] W fun e w' => e = .returned (.tuple #[.agg #[.bool true, .int .i64 3, .int .i64 201, .int .i64 8], .int .i64 0]) ∧ Ext W w' := by
  have h := cread_any A 9 c _ W hb
  rwa [show cE [163, 201, 0, 1, 1, 2, 3, 4, 5] = 0 by decide, show cP [163, 201, 0, 1, 1, 2, 3, 4, 5] = true by decide, show cC [163, 201, 0, 1, 1, 2, 3, 4, 5] = 3 by decide, show cT [163, 201, 0, 1, 1, 2, 3, 4, 5] = 201 by decide, show cS [163, 201, 0, 1, 1, 2, 3, 4, 5] = 8 by decide] at h
theorem aw3 (W : World) (A : Option Addr) (c : Nat) (hb : Bytes W A 4 c [163, 201, 0, 1]) : Calls Try.prog 18 #[.slice A 4 c] W fun e w' => e = .returned (.tuple #[.agg #[.bool false, .int .i64 0, .int .i64 0, .int .i64 0], .int .i64 4]) ∧ Ext W w' := by
  have h := cread_any A 4 c _ W hb
  rwa [show cE [163, 201, 0, 1] = 4 by decide, show cP [163, 201, 0, 1] = false by decide, show cC [163, 201, 0, 1] = 0 by decide, show cT [163, 201, 0, 1] = 0 by decide, show cS [163, 201, 0, 1] = 0 by decide] at h
theorem aw4 (W : World) : Calls Try.prog 20 #[.agg #[.bool true, .int .i64 3, .int .i64 201, .int .i64 8]] W fun e w' => e = .returned (.bool true) ∧ Ext W w' := by
  have h := cright_any true 3 201 8 W
  rwa [show cRight 3 201 8 = true by decide] at h
end Aw10
/-- Two headers, held against each other. -/
theorem eql_common (p q : Bool) (a b c d e f : Int) (w : World) : (binOp .eql 32 (.agg #[.bool p, .int .i64 a, .int .i64 b, .int .i64 c]) (.agg #[.bool q, .int .i64 d, .int .i64 e, .int .i64 f])).run Try.prog w =
    .ok (.bool (p == q && a == d && b == e && c == f)) w := by
  rw [run_eql_struct, run_equalIn_struct w 9999 _ _ _ (by kernel_rfl) (by kernel_rfl)]
  have u3 := Try.underlying3
  have a3 := Try.isAgg3
  have z3 := Try.sizeOf3
  have u2 := Try.underlying2
  have a2 := Try.isAgg2
  have z2 := Try.sizeOf2
  simp only [Program.fieldsOf, Try.underlying32]
  go_simp
  cases p <;> cases q <;> by_cases h1 : a = d <;> by_cases h2 : b = e <;> by_cases h3 : c = f <;> simp [h1, h2, h3]
theorem neq_common (p q : Bool) (a b c d e f : Int) (w : World) : (binOp .neq 32 (.agg #[.bool p, .int .i64 a, .int .i64 b, .int .i64 c]) (.agg #[.bool q, .int .i64 d, .int .i64 e, .int .i64 f])).run Try.prog w =
    .ok (.bool (!(p == q && a == d && b == e && c == f))) w := by
  rw [run_neq_struct, run_equalIn_struct w 9999 _ _ _ (by kernel_rfl) (by kernel_rfl)]
  have u3 := Try.underlying3
  have a3 := Try.isAgg3
  have z3 := Try.sizeOf3
  have u2 := Try.underlying2
  have a2 := Try.isAgg2
  have z2 := Try.sizeOf2
  simp only [Program.fieldsOf, Try.underlying32]
  go_simp
  cases p <;> cases q <;> by_cases h1 : a = d <;> by_cases h2 : b = e <;> by_cases h3 : c = f <;> simp [h1, h2, h3]
open Aw10 in
set_option maxRecDepth 100000 in
set_option maxHeartbeats 1000000 in
theorem awake10 (w : World) : Calls Try.prog 14 #[] w fun e w' => e = .returned (.bool true) ∧ Ext w w' := by
  go_enter Try.func14, Try.ntmps14
  go_wp2_with fail
  refine (aw1 _).mono ?_
  rintro e w1 ⟨A1, c1, rfl, hB1, hE1⟩
  have hbx := (Blk.new w 32 #[.bool true, .int .i64 3, .int .i64 201, .int .i64 8]).below hE1 (by simp)
  replace hE1 := ((Ext.refl w).alloc _).trans hE1
  go_wp2_with (at_builtin; first
    | (refine wpList_appB w1 _ _ rfl rfl ((Ext.refl _).alloc _) _ _ _ _ rfl (own_empty _) A1 4 c1 _ rfl (hB1.alloc _) (by omega) ?_; intro A2 c2 w2 hown2 hE2)
    | (refine wpList_appB w1 _ _ rfl rfl (hE2.alloc _) A2 4 c2 [163, 201, 0, 1] rfl (hown2.alloc _) _ 5 5 [1, 2, 3, 4, 5] rfl (Bytes.lit (vs := [.int .u8 1, .int .u8 2, .int .u8 3, .int .u8 4, .int .u8 5]) _ 5 5 rfl rfl (by omega)) (by omega) ?_; intro A3 c3 w3 hown3 hE3))
  have hbl := hbx.lt
  replace hbx := hbx.below hE3 hbl
  replace hE1 := hE1.trans hE3
  replace hB1 := hB1.ext hE3
  have hB3 := Bytes.own hown3
  clear hown2 hown3 hE2 hE3
  have hbl := hbx.lt
  refine (aw2 _ _ _ hB3).mono ?_
  rintro e w4 ⟨rfl, hE4⟩
  replace hbx := hbx.below hE4 hbl
  replace hE1 := hE1.trans hE4
  replace hB1 := hB1.ext hE4
  clear hE4 hB3 hbl
  have hbl := hbx.lt
  have hE5 := (Ext.refl w4).alloc (.cells #[.bool true, .int .i64 3, .int .i64 201, .int .i64 8] 32)
  have hbx2 := Blk.new w4 32 #[.bool true, .int .i64 3, .int .i64 201, .int .i64 8]
  go_wp2_with fail
  refine (aw3 _ _ _ (hB1.ext hE5)).mono ?_
  rintro e w5 ⟨rfl, hE6⟩
  replace hbx2 := hbx2.below hE6 (by simp)
  replace hE5 := hE5.trans hE6
  clear hE6
  replace hbx := hbx.below hE5 hbl
  replace hE1 := hE1.trans hE5
  replace hB1 := hB1.ext hE5
  clear hE5 hbl
  have s1 := run_str (hB1.alloc (.cells #[.bool false, .int .i64 0, .int .i64 0, .int .i64 0] 32))
  have q1 := hbx.four
  have q2 := hbx2.four
  obtain ⟨⟨u0, u1, u2, u3⟩, _, hlt⟩ := q1
  obtain ⟨⟨v0, v1, v2, v3⟩, _, hlt2⟩ := q2
  have s2 := fun w => eql_common true true 3 201 8 3 201 8 w
  have hK : (true == true && (3 : Int) == 3 && (201 : Int) == 201 && (8 : Int) == 8) = true := by decide
  rw [hK] at s2
  clear hK hB1 hbx hbx2
  go_wp2_with fail
  refine (aw4 _).mono ?_
  rintro e w6 ⟨rfl, hE6⟩
  replace hE1 := (hE1.alloc _).trans hE6
  go_wp2_with fail
  go_ret
  exact ⟨rfl, hE1⟩
end Go.Proofs.Ytiamcdbnhmlhaaa

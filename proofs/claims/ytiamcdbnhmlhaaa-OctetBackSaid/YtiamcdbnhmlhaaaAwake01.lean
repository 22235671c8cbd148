/- The fixed answer of the statements of layer 1. -/
import Derived.Test.YtiamcdbnhmlhaaaOctAny
namespace Go.Proofs.Ytiamcdbnhmlhaaa
open Go.RowKit
namespace Aw01
theorem aw1 (W : World) (A : Option Addr) (c : Nat) (hb : Bytes W A 3 c [1, 2, 3]) : Calls Try.prog 13 #[.slice A 3 c, .int .i64 1, .int .i64 2] W fun e w' => e = .returned (.tuple #[.int .u64 515, .int .i64 0]) ∧ Ext W w' := by
  have h := get_any A 3 c [1, 2, 3] 1 2 W hb
  rw [show getV [1, 2, 3] 1 2 = 515 by decide, show getE ([1, 2, 3] : List UInt8).length 1 2 = 0 by decide] at h
  exact h.mono fun e w' ⟨he, hw⟩ => ⟨he, hw ▸ Ext.refl _⟩
theorem aw2 (W : World) (A : Option Addr) (c : Nat) (hb : Bytes W A 2 c [255, 254]) : Calls Try.prog 25 #[.slice A 2 c, .int .i64 0, .int .i64 2] W fun e w' => e = .returned (.tuple #[.int .i64 (-2), .int .i64 0]) ∧ Ext W w' := by
  have h := signed_any A 2 c [255, 254] 0 2 W hb
  rw [show sgV [255, 254] 0 2 = -2 by decide, show getE ([255, 254] : List UInt8).length 0 2 = 0 by decide] at h
  exact h.mono fun e w' ⟨he, hw⟩ => ⟨he, hw ▸ Ext.refl _⟩
theorem aw3 (W : World) : Calls Try.prog 23 #[.int .u64 515, .int .i64 2] W fun e w' => ∃ A c, e = .returned (.tuple #[.slice A 2 c, .int .i64 0]) ∧ Bytes w' A 2 c [2, 3] ∧ Ext W w' := by
  have h := put_any 515 2 W (by omega)
  rw [show putE 515 2 = 0 by decide, show putL 515 2 = [2, 3] by decide] at h
  exact h.mono fun e w' ⟨A, k, c, he, ho, hE⟩ => by
    have hB := Bytes.own ho
    obtain rfl : k = 2 := hB.len.symm
    exact ⟨A, c, he, hB, hE⟩
theorem aw4 (W : World) (A : Option Addr) (c : Nat) (hb : Bytes W A 3 c [9, 9, 9]) : Calls Try.prog 12 #[.slice A 3 c, .int .i64 1, .int .i64 2, .int .u64 515] W fun e w' => ∃ A' c', e = .returned (.tuple #[.slice A' 3 c', .int .i64 0]) ∧ Bytes w' A' 3 c' [9, 2, 3] ∧ Ext W w' := by
  have h := set_any A 3 c [9, 9, 9] 1 2 515 W hb (by omega) (by omega)
  rw [show setE ([9, 9, 9] : List UInt8).length 1 2 515 = 0 by decide, show setL [9, 9, 9] 1 2 515 = [9, 2, 3] by decide] at h
  exact h.mono fun e w' ⟨A, k, c, he, ho, hE⟩ => by
    have hB := Bytes.own ho
    obtain rfl : k = 3 := hB.len.symm
    exact ⟨A, c, he, hB, hE⟩
theorem aw5 (W : World) : Calls Try.prog 23 #[.int .u64 256, .int .i64 1] W fun e w' => ∃ v, e = .returned (.tuple #[v, .int .i64 6]) ∧ Ext W w' := by
  have h := put_any 256 1 W (by omega)
  rw [show putE 256 1 = 6 by decide] at h
  exact h.mono fun e w' ⟨A, k, c, he, ho, hE⟩ => ⟨_, he, hE⟩
theorem aw6 (W : World) (A : Option Addr) (c : Nat) (h : Slices W A 2 c [[2, 3], [2, 3]]) : Calls Try.prog 22 #[.slice A 2 c] W fun e w' => ∃ A' c', e = .returned (.slice A' 4 c') ∧ Bytes w' A' 4 c' [2, 3, 2, 3] ∧ Ext W w' := by
  have h := join_any A 2 c [[2, 3], [2, 3]] W h (by decide)
  rw [show cat [[2, 3], [2, 3]] = [2, 3, 2, 3] by decide] at h
  exact h.mono fun e w' ⟨A, c, he, ho, hE⟩ => ⟨A, c, he, Bytes.own ho, hE⟩
end Aw01

open Aw01 in
set_option maxRecDepth 100000 in
set_option maxHeartbeats 1000000 in
theorem awake01 (w : World) : Calls Try.prog 11 #[] w fun e w' => e = .returned (.bool true) ∧ Ext w w' := by
  go_enter Try.func11, Try.ntmps11
  go_wp2_with fail
  refine (aw1 _ _ _ (Bytes.lit (vs := [.int .u8 1, .int .u8 2, .int .u8 3]) [1, 2, 3] 5 3 rfl rfl (by omega))).mono ?_
  rintro e w1 ⟨rfl, hE1⟩
  replace hE1 := ((Ext.refl w).alloc _).trans hE1
  go_wp2_with fail
  refine (aw2 _ _ _ (Bytes.lit (vs := [.int .u8 255, .int .u8 254]) [255, 254] 5 2 rfl rfl (by omega))).mono ?_
  rintro e w2 ⟨rfl, hE2⟩
  replace hE1 := (hE1.alloc _).trans hE2
  clear hE2
  go_wp2_with fail
  refine (aw3 _).mono ?_
  rintro e w3 ⟨A3, c3, rfl, hB3, hE3⟩
  replace hE1 := hE1.trans hE3
  clear hE3
  go_wp2_with fail
  refine (aw4 _ _ _ (Bytes.lit (vs := [.int .u8 9, .int .u8 9, .int .u8 9]) [9, 9, 9] 5 3 rfl rfl (by omega))).mono ?_
  rintro e w4 ⟨A4, c4, rfl, hB4, hE4⟩
  replace hE4 := ((Ext.refl w3).alloc _).trans hE4
  replace hB3 := hB3.ext hE4
  replace hE1 := hE1.trans hE4
  clear hE4
  go_wp2_with fail
  refine (aw5 _).mono ?_
  rintro e w5 ⟨v5, rfl, hE5⟩
  replace hB3 := hB3.ext hE5
  replace hB4 := hB4.ext hE5
  replace hE1 := hE1.trans hE5
  clear hE5
  have s1 := run_str hB3
  have s2 := run_str hB4
  go_wp2_with fail
  refine (aw6 _ _ _ (Slices.lit (vs := [.slice A3 2 c3, .slice A3 2 c3]) 22 2 rfl (by omega) ⟨hB3, hB3, trivial⟩)).mono ?_
  rintro e w6 ⟨A6, c6, rfl, hB6, hE6⟩
  replace hE1 := (hE1.alloc _).trans hE6
  have s3 := run_str hB6
  clear hE6
  go_wp2
  go_ret
  exact ⟨rfl, hE1⟩
end Go.Proofs.Ytiamcdbnhmlhaaa

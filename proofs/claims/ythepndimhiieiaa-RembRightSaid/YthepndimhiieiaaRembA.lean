/- remb: rates, numbers as rates: the walks. -/
import Derived.Test.YthepndimhiieiaaPlainRemb
import Derived.Test.YthepndimhiieiaaLen
import Derived.Test.YthepndimhiieiaaOctB
import Derived.Test.YthepndimhiieiaaPlainOct2
import Derived.Test.YthepndimhiieiaaReg
import Derived.Test.YthepndimhiieiaaAppB
import Derived.Test.YthepndimhiieiaaElsIn
import Derived.BigQuiet
import Derived.Deep.QuietTactic
namespace Go.Proofs.Ythepndimhiieiaa
open Go.RowKit
theorem ret_boolR {a b : Bool} (h : a = true ↔ b = true) : Ending.returned (.bool a) = .returned (.bool b) := by rw [Bool.eq_iff_iff.2 h]
theorem Blk.three {w : World} {g : Nat} {t : TypeId} {a b c : Value} (h : Blk w g t #[a, b, c]) :
    (w.cell? ⟨g, 0, none⟩ = some a ∧ w.cell? ⟨g, 1, none⟩ = some b ∧ w.cell? ⟨g, 2, none⟩ = some c) ∧ (∀ i, w.frozen? ⟨g, i, none⟩ = false) ∧ g < w.heap.size :=
  ⟨⟨h.cell 0, h.cell 1, h.cell 2⟩, h.frozen, h.lt⟩
set_option maxHeartbeats 1000000 in
theorem right17 (x : Int) (m : Nat) (A : Option Addr) (n c : Nat) (w : World) : Calls Try.prog 49 #[.agg #[.int .i64 x, .int .u32 (m : Int), .slice A n c]] w fun e w' => e = .returned (.bool (rbRight x m n)) ∧ Ext w w' := by
  go_enter Try.func49, Try.ntmps49
  go_wp2
  all_goals go_ret
  all_goals exact ⟨ret_boolR (by simp [rbRight]; try omega), (Ext.refl _).alloc _⟩
set_option maxHeartbeats 1000000 in
theorem len32_N (m : Nat) (hm : m < 4294967296) (b : Nat) (hb : Lib.bitLen m = b) (w : World) : Calls Try.prog 92 #[.int .u32 (m : Int)] w fun e w' => e = .returned (.int .i64 (b : Int)) ∧ w' = w := by
  have := Try.bits_Len32 (m : Int) w (by omega) (by omega)
  rw [Int.toNat_natCast, hb] at this
  exact this
theorem len64_N (m : Nat) (hm : m < 18446744073709551616) (b : Nat) (hb : Lib.bitLen m = b) (w : World) : Calls Try.prog 91 #[.int .u64 (m : Int)] w fun e w' => e = .returned (.int .i64 (b : Int)) ∧ w' = w := by
  have := Try.bits_Len64 (m : Int) w (by omega) (by omega)
  rw [Int.toNat_natCast, hb] at this
  exact this
set_option maxHeartbeats 1000000 in
theorem of17 (v : Nat) (hv : v < 18446744073709551616) (x m : Nat) (hx : ofX v = x) (hm : ofM v = m) (w : World) : Calls Try.prog 53 #[.int .u64 (v : Int)] w fun e w' => e = .returned (.agg #[.int .i64 (x : Int), .int .u32 (m : Int), .slice none 0 0]) ∧ Ext w w' := by
  have hl := ofM_lt v hv
  obtain ⟨b, hb⟩ : ∃ b, Lib.bitLen v = b := ⟨_, rfl⟩
  have hb64 : b ≤ 64 := by rw [← hb]; exact bitLen_le v 64 hv hv
  have S := hide (fun W => len64_N v hv b hb W)
  have hxe : x = b - 18 := by rw [← hx, ← hb]; rfl
  have hme : m = v / 2 ^ (b - 18) := by rw [← hm, ← hxe, ← hx]; rfl
  rw [hm] at hl
  clear hm hx hb
  go_enter Try.func53, Try.ntmps53
  go_wp2_with fail
  refine (S.out _).mono ?_
  rintro e w1 ⟨rfl, rfl⟩
  go_wp2_with fail
  have km : max ((b : Int) - 18) 0 = (x : Int) := by omega
  have kd : (v : Int) / 2 ^ ((x : Int).toNat) % 4294967296 = (m : Int) := by
    rw [Int.toNat_natCast, show (v : Int) / 2 ^ x = ((v / 2 ^ x : Nat) : Int) by rw [Int.natCast_ediv, Int.natCast_pow]; rfl, hxe, ← hme]
    omega
  rw [km, kd]
  exact bodyPost_ret (v := .agg #[.int .i64 (x : Int), .int .u32 (m : Int), .slice none 0 0]) (by simp [results, Try.results53, go_sem]) rfl ⟨rfl, (Ext.refl _).alloc _⟩
set_option maxHeartbeats 1000000 in
theorem least17 (x m : Nat) (hx : x ≤ 63) (hm : m < 262144) (x' m' : Nat) (hx' : lsX x m = x') (hm' : lsM x m = m') (w : World) : Calls Try.prog 86 #[.int .i64 (x : Int), .int .u32 (m : Int)] w fun e w' => e = .returned (.tuple #[.int .i64 (x' : Int), .int .u32 (m' : Int)]) ∧ Ext w w' := by
  by_cases h0 : m = 0
  · subst h0
    obtain rfl : x' = 0 := by rw [← hx']; simp [lsX]
    obtain rfl : m' = 0 := by rw [← hm']; simp [lsM]
    clear hx' hm'
    go_enter Try.func86, Try.ntmps86
    go_wp2_with fail
    go_ret2
    exact ⟨rfl, Ext.refl _⟩
  · obtain ⟨b, hb⟩ : ∃ b, Lib.bitLen m = b := ⟨_, rfl⟩
    have S := hide (fun W => len32_N m (by omega) b hb W)
    obtain ⟨q1, q2, q3, q4⟩ := lsD_le x m hm h0
    have hb18 : b ≤ 18 := by rw [← hb]; exact bitLen_le m 18 hm (by omega)
    obtain ⟨d, hd⟩ : ∃ d, lsD x m = d := ⟨_, rfl⟩
    have hde : (d : Int) = min (x : Int) (18 - (b : Int)) := by rw [← hd]; unfold lsD; rw [hb]; omega
    have hxe : x' = x - d := by rw [← hx', ← hd]; unfold lsX; rw [if_neg h0]
    have hme : m' = m * 2 ^ d := by rw [← hm', ← hd]; unfold lsM; rw [if_neg h0]
    rw [hd] at q1 q2 q3 q4
    clear hx' hm' hb hd
    have g0 : ((m : Int) == 0) = false := beq_eq_false_iff_ne.2 (by omega)
    go_enter Try.func86, Try.ntmps86
    go_wp2_with fail
    refine (S.out _).mono ?_
    rintro e w1 ⟨rfl, rfl⟩
    go_wp2_with fail
    rw [← hde]
    have hdn : ((d : Nat) : Int) < 32 := by omega
    have k1 : IntKind.i64.wrap ((x : Int) - (d : Int)) = (x' : Int) := by rw [IntWalk.i64_in _ (by omega)]; omega
    have k2 : IntKind.u32.wrap ((m : Int) * 2 ^ d) = (m' : Int) := by
      rw [show (m : Int) * 2 ^ d = ((m * 2 ^ d : Nat) : Int) by rw [Int.natCast_mul, Int.natCast_pow]; rfl, IntKind.wrap_u32]
      omega
    clear hde q4 hxe hme q2
    go_quiet (fail)
    go_wp2_with fail
    go_ret2
    exact ⟨rfl, (Ext.refl _).drewN _⟩
set_option maxHeartbeats 1000000 in
theorem told17 (A : Option Addr) (n c : Nat) (b : List UInt8) (w : World) (hb : Bytes w A n c b) (h8 : 8 ≤ n) (x m : Nat) (hx : getV b 5 3 / 262144 = x) (hm : getV b 5 3 % 262144 = m) : Calls Try.prog 87 #[.slice A n c] w fun e w' => e = .returned (.tuple #[.int .i64 (x : Int), .int .u32 (m : Int)]) ∧ w = w' := by
  have hlen := hb.len
  have hE : getE b.length 5 (3 : Int) = 0 := getE_of (by omega) (by omega) (by omega) (by omega)
  obtain ⟨v, hv⟩ : ∃ v, getV b 5 3 = v := ⟨_, rfl⟩
  have S := hide (fun W h => get_B A n c b 5 3 W h v hv 0 hE)
  rw [hv] at hx hm
  have hvl : v < 18446744073709551616 := by
    have h := getV_lt hE
    rw [show (256 : Nat) ^ (3 : Int).toNat = 16777216 from rfl, hv] at h
    omega
  have k1 : IntKind.i64.wrap ((v : Int) / 262144) = (x : Int) := by rw [IntWalk.i64_in _ (by omega)]; omega
  have k2 : bits .and .u64 (v : Int) 262143 % 4294967296 = (m : Int) := by
    have : bits .and .u64 (v : Int) 262143 = (v : Int) % 262144 := by have h1 : (0 : Int) ≤ v := by omega
                                                                      have h2 : (v : Int) < 18446744073709551616 := by omega
                                                                      generalize (v : Int) = z at h1 h2
                                                                      go_bits2
    rw [this]; omega
  clear hE hlen hv
  go_enter Try.func87, Try.ntmps87
  go_wp2_with fail
  refine (S.out _ hb).mono ?_
  rintro e w1 ⟨rfl, rfl⟩
  go_wp2_with fail
  go_ret2
  refine ⟨?_, rfl⟩
  show Ending.returned (.tuple #[.int .i64 (x : Int), .int .u32 (bits .and .u64 (v : Int) 262143 % 4294967296)]) = _
  rw [k2]
set_option maxHeartbeats 1000000 in
theorem value17 (x m : Nat) (hx : x < 4611686018427387904) (hm : m < 4294967296) (A : Option Addr) (n c : Nat) (v : Nat) (hv : rbVal x m n = v) (w : World) : Calls Try.prog 55 #[.agg #[.int .i64 (x : Int), .int .u32 (m : Int), .slice A n c]] w fun e w' => e = .returned (.int .u64 (v : Int)) ∧ Ext w w' := by
  have hbx := Blk.new w 84 #[.int .i64 (x : Int), .int .u32 (m : Int), .slice A n c]
  obtain ⟨r, hr⟩ : ∃ r, rbRight x m n = r := ⟨_, rfl⟩
  have S := hide (fun W => right17 x m A n c W)
  rw [hr] at S
  obtain ⟨b, hb⟩ : ∃ b, Lib.bitLen m = b := ⟨_, rfl⟩
  have hb32 : b ≤ 32 := by rw [← hb]; exact bitLen_le m 32 hm (by omega)
  have L := hide (fun W => len32_N m hm b hb W)
  unfold rbVal at hv
  rw [hr, hb] at hv
  cases r
  · rw [if_neg (by decide)] at hv
    subst hv
    clear hr hb
    go_enter Try.func55, Try.ntmps55
    go_wp2_with fail
    refine (S.out _).mono ?_
    rintro e w1 ⟨rfl, hE⟩
    go_wp2_with fail
    go_ret
    exact ⟨rfl, ((Ext.refl _).alloc _).trans hE⟩
  · rw [if_pos rfl] at hv
    have hd := of_decide_eq_true hr
    have hs : IntKind.i64.wrap ((b : Int) + (x : Int)) = (b : Int) + (x : Int) := IntWalk.i64_in _ (by omega)
    have hbm : m < 2 ^ b := by rw [← hb]; exact bitLen_lt m (by omega)
    clear hr hb
    by_cases h64 : 64 < b + x
    · rw [if_pos h64] at hv
      subst hv
      have h64i : (64 : Int) < (b : Int) + (x : Int) := by omega
      go_enter Try.func55, Try.ntmps55
      go_wp2_with fail
      refine (S.out _).mono ?_
      rintro e w1 ⟨rfl, hE⟩
      obtain ⟨⟨u0, u1, u2⟩, _, _⟩ := (hbx.below hE (by simp)).three
      go_wp2_with fail
      go_quiet ((go_at_call 92; exact Calls.quiet_of_same (L.out _)))
      go_wp2_with fail
      go_ret
      exact ⟨rfl, ((Ext.refl _).alloc _).trans (hE.drewN _)⟩
    · rw [if_neg h64] at hv
      subst hv
      have h64i : ¬ ((64 : Int) < (b : Int) + (x : Int)) := by omega
      have hfit : m * 2 ^ x < 2 ^ 64 := by
        calc m * 2 ^ x < 2 ^ b * 2 ^ x := Nat.mul_lt_mul_of_pos_right hbm (Nat.two_pow_pos _)
          _ = 2 ^ (b + x) := by rw [Nat.pow_add]
          _ ≤ 2 ^ 64 := Nat.pow_le_pow_right (by omega) (by omega)
      go_enter Try.func55, Try.ntmps55
      go_wp2_with fail
      refine (S.out _).mono ?_
      rintro e w1 ⟨rfl, hE⟩
      obtain ⟨⟨u0, u1, u2⟩, _, _⟩ := (hbx.below hE (by simp)).three
      go_wp2_with fail
      go_quiet ((go_at_call 92; exact Calls.quiet_of_same (L.out _)))
      go_wp2_with fail
      go_ret
      refine ⟨?_, ((Ext.refl _).alloc _).trans (hE.drewN _)⟩
      show Ending.returned (.int .u64 (IntKind.u64.wrap ((m : Int) * 2 ^ x))) = _
      rw [show (m : Int) * 2 ^ x = ((m * 2 ^ x : Nat) : Int) by rw [Int.natCast_mul, Int.natCast_pow]; rfl, IntKind.wrap_u64]
      congr 2
      omega
end Go.Proofs.Ythepndimhiieiaa

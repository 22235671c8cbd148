/- RembSame: the walk. -/
import Derived.Test.YthepndimhiieiaaRembC
namespace Go.Proofs.Ythepndimhiieiaa
open Go.RowKit
def sb (n : Nat) : List UInt8 := [82, 69, 77, 66, 0, UInt8.ofNat (n / 65536), UInt8.ofNat (n / 256), UInt8.ofNat n]
theorem sb_val (n : Nat) (h : n < 16777216) : getV (sb n) 5 3 = n := by
  have : getV (sb n) 5 3 = val [UInt8.ofNat (n / 65536), UInt8.ofNat (n / 256), UInt8.ofNat n] := by
    unfold getV
    rw [if_pos (by simp [getE, sb])]
    rfl
  rw [this]
  simp [val, UInt8.toNat_ofNat']
  omega
set_option maxRecDepth 100000 in
set_option maxHeartbeats 4000000 in
theorem law_rembsame (x m : Nat) (hx : x < 256) (hm : m < 4294967296) (w : World) :
    Calls Try.prog 15 #[.int .u8 (x : Int), .int .u32 (m : Int)] w fun e w' => e = .returned (.bool true) ∧ Ext w w' := by
  obtain ⟨x1, hx1⟩ : ∃ x1, x % 46 = x1 := ⟨_, rfl⟩
  obtain ⟨m1, hm1⟩ : ∃ m1, m % 262144 = m1 := ⟨_, rfl⟩
  have hx1i : (x : Int) % 46 = (x1 : Int) := by omega
  have hm1i : (m : Int) % 262144 = (m1 : Int) := by omega
  have hx1l : x1 < 46 := by omega
  have hm1l : m1 < 262144 := by omega
  obtain ⟨n, hn⟩ : ∃ n, x1 * 262144 + m1 = n := ⟨_, rfl⟩
  have hn24 : n < 16777216 := by omega
  have hni : (x1 : Int) * 262144 + (m1 : Int) = (n : Int) := by omega
  obtain ⟨a1, a2, a3⟩ := ls_val x1 m1 hm1l (by omega)
  have hg := sb_val n hn24
  have hd : n / 262144 = x1 := by omega
  have hr : n % 262144 = m1 := by omega
  obtain ⟨X, hX⟩ : ∃ X, lsX x1 m1 = X := ⟨_, rfl⟩
  obtain ⟨M, hM⟩ : ∃ M, lsM x1 m1 = M := ⟨_, rfl⟩
  rw [hX] at a1 a2
  rw [hM] at a1 a3
  obtain ⟨V, hV⟩ : ∃ V, m1 * 2 ^ x1 = V := ⟨_, rfl⟩
  rw [hV] at a1
  have hV64 : V < 18446744073709551616 := by
    rw [← hV]
    calc m1 * 2 ^ x1 < 2 ^ 18 * 2 ^ x1 := Nat.mul_lt_mul_of_pos_right hm1l (Nat.two_pow_pos _)
      _ = 2 ^ (18 + x1) := by rw [Nat.pow_add]
      _ ≤ 2 ^ 64 := Nat.pow_le_pow_right (by omega) (by omega)
  have hVi : IntKind.u64.wrap ((m1 : Int) * 2 ^ x1) = (V : Int) := by
    rw [show (m1 : Int) * 2 ^ x1 = ((m1 * 2 ^ x1 : Nat) : Int) by rw [Int.natCast_mul, Int.natCast_pow]; rfl, hV, IntKind.wrap_u64]
    omega
  have hsv : (sb n).map Bv = [.int .u8 82, .int .u8 69, .int .u8 77, .int .u8 66, .int .u8 0, .int .u8 ((n : Int) / 65536), .int .u8 ((n : Int) / 256 % 256), .int .u8 ((n : Int) % 256)] := by
    simp [sb, Bv, UInt8.toNat_ofNat']
    omega
  have S1 := hide (fun W g o c h => read17_ok 0 g o 8 c (sb n) W h rfl (by omega) rfl rfl X M (by rw [hg, hd, hr]; exact hX) (by rw [hg, hd, hr]; exact hM))
  have S2 := hide (fun W A c => value17 X M (by omega) (by omega) A 0 c V a1 W)
  have HS := hide hsv
  have HVI := hide hVi
  have hXx : ¬ ((x1 : Int) < (X : Int)) := by omega
  have hXd : decide ((X : Int) ≤ (x1 : Int)) = true := decide_eq_true (by omega)
  have hn0 : (0 : Int) ≤ (n : Int) := by omega
  have hn1 : (n : Int) < 16777216 := by omega
  clear hVi hg hd hr hX hM hV hsv a1 a2 a3 hx1 hm1 hn
  have hx0 : (0 : Int) ≤ (x : Int) := by omega
  have hx2 : (x : Int) < 256 := by omega
  have hm0 : (0 : Int) ≤ (m : Int) := by omega
  have hm2 : (m : Int) < 4294967296 := by omega
  generalize (x : Int) = xi at *
  generalize (m : Int) = mi at *
  clear hx hm x m
  go_enter Try.func15, Try.ntmps15
  go_wp2_with fail
  refine (awake17 _).mono ?_
  rintro e w1 ⟨rfl, hE⟩
  go_wp2_with fail
  have hL := Bytes.lit (w := w1) (sb n) 5 8 HS.out rfl (by omega)
  replace hE := hE.alloc (.cells #[.int .u8 82, .int .u8 69, .int .u8 77, .int .u8 66, .int .u8 0, .int .u8 ((n : Int) / 65536), .int .u8 ((n : Int) / 256 % 256), .int .u8 ((n : Int) % 256)] 5)
  refine (S1.out _ _ _ _ hL).mono ?_
  rintro e w2 ⟨A', c', rfl, _, hE2⟩
  replace hE := hE.trans hE2
  clear hE2 hL
  have hbx := Blk.new w2 84 #[.int .i64 (X : Int), .int .u32 (M : Int), .slice A' 0 c']
  replace hE := hE.alloc (.cells #[.int .i64 (X : Int), .int .u32 (M : Int), .slice A' 0 c'] 84)
  go_upto_region 6 with fail
  generalize hgw : w2.alloc (.cells #[.int .i64 (X : Int), .int .u32 (M : Int), .slice A' 0 c'] 84) = w3 at *
  obtain ⟨g, hg⟩ : ∃ g, w2.heap.size = g := ⟨_, rfl⟩
  rw [hg] at hbx ⊢
  clear hgw hg
  have hW1 : IntKind.u64.wrap (m1 : Int) = (m1 : Int) := by rw [IntKind.wrap_u64]; omega
  have hVi2 : IntKind.u64.wrap ((m1 : Int) * 2 ^ x1) = (V : Int) := HVI.out
  have hVV : ((V : Int) == (V : Int)) = true := beq_self_eq_true _
  have hX0 : decide ((0 : Int) ≤ (X : Int)) = true := decide_eq_true (by omega)
  have hXd : decide ((X : Int) ≤ (x1 : Int)) = true := decide_eq_true (by omega)
  refine regE_start (by kernel_rfl) ?_
  have hR := (Ext.refl w3).drew
  generalize hgw : (w3).drew = wr0 at *
  clear hgw
  refine regE_take (i := 0) (v := ?_) rfl (by kernel_rfl) (by kernel_rfl) (by kernel_rfl) (fun _ _ _ h => h) (by rfl) ?_ ?_
  rotate_left
  · intro W hW; go_simp; try with_reducible rfl
  simp only [Act.put, List.setIfInBounds_toArray, List.set_cons_zero, List.set_cons_succ]
  refine regE_take (i := 1) (v := ?_) rfl (by kernel_rfl) (by kernel_rfl) (by kernel_rfl) (fun _ _ _ h => h) (by rfl) ?_ ?_
  rotate_left
  · intro W hW; go_simp; try with_reducible rfl
  simp only [Act.put, List.setIfInBounds_toArray, List.set_cons_zero, List.set_cons_succ]
  refine regE_take (i := 2) (v := ?_) rfl (by kernel_rfl) (by kernel_rfl) (by kernel_rfl) (fun _ _ _ h => h) (by rfl) ?_ ?_
  rotate_left
  · intro W hW; go_simp; try with_reducible rfl
  simp only [Act.put, List.setIfInBounds_toArray, List.set_cons_zero, List.set_cons_succ]
  refine regE_take (i := 3) (v := ?_) rfl (by kernel_rfl) (by kernel_rfl) (by kernel_rfl) (fun _ _ _ h => h) (by rfl) ?_ ?_
  rotate_left
  · intro W hW; obtain ⟨⟨u0, u1, u2⟩, _, _⟩ := (hbx.below hW hbx.lt).three; go_simp; try with_reducible rfl
  simp only [Act.put, List.setIfInBounds_toArray, List.set_cons_zero, List.set_cons_succ]
  refine regE_take (i := 5) (v := ?_) rfl (by kernel_rfl) (by kernel_rfl) (by kernel_rfl) (fun _ _ _ h => h) (by rfl) ?_ ?_
  rotate_left
  · intro W hW; go_simp; try with_reducible rfl
  simp only [Act.put, List.setIfInBounds_toArray, List.set_cons_zero, List.set_cons_succ]
  refine regE_take (i := 6) (v := ?_) rfl (by kernel_rfl) (by kernel_rfl) (by kernel_rfl) (fun _ _ _ h => h) (by rfl) ?_ ?_
  rotate_left
  · intro W hW; go_simp; try with_reducible rfl
  simp only [Act.put, List.setIfInBounds_toArray, List.set_cons_zero, List.set_cons_succ]
  refine regE_take (i := 7) (v := ?_) rfl (by kernel_rfl) (by kernel_rfl) (by kernel_rfl) (fun _ _ _ h => h) (by rfl) ?_ ?_
  rotate_left
  · intro W hW; go_simp; try with_reducible rfl
  simp only [Act.put, List.setIfInBounds_toArray, List.set_cons_zero, List.set_cons_succ]
  refine regE_take (i := 8) (v := ?_) rfl (by kernel_rfl) (by kernel_rfl) (by kernel_rfl) (fun _ _ _ h => h) (by rfl) ?_ ?_
  rotate_left
  · intro W hW; go_simp; try with_reducible rfl
  simp only [Act.put, List.setIfInBounds_toArray, List.set_cons_zero, List.set_cons_succ]
  refine regE_do (i := 4) rfl (by kernel_rfl) (fun K hK => ?_)
  rw [if_pos (by rfl)]
  go_simp
  refine (S2.out _ _ _).mono ?_
  rintro e wr1 ⟨rfl, hXX⟩
  refine hK.out _ _ (hR.trans hXX) ?_
  clear hK K
  replace hR := hR.trans hXX
  clear hXX
  try simp only [Act.put, List.setIfInBounds_toArray, List.set_cons_zero, List.set_cons_succ]
  refine regE_take (i := 9) (v := ?_) rfl (by kernel_rfl) (by kernel_rfl) (by kernel_rfl) (fun _ _ _ h => h) (by rfl) ?_ ?_
  rotate_left
  · intro W hW; go_simp; try with_reducible rfl
  simp only [Act.put, List.setIfInBounds_toArray, List.set_cons_zero, List.set_cons_succ]
  refine regE_take (i := 10) (v := ?_) rfl (by kernel_rfl) (by kernel_rfl) (by kernel_rfl) (fun _ _ _ h => h) (by rfl) ?_ ?_
  rotate_left
  · intro W hW; go_simp; try with_reducible rfl
  simp only [Act.put, List.setIfInBounds_toArray, List.set_cons_zero, List.set_cons_succ]
  refine regE_take (i := 11) (v := ?_) rfl (by kernel_rfl) (by kernel_rfl) (by kernel_rfl) (fun _ _ _ h => h) (by rfl) ?_ ?_
  rotate_left
  · intro W hW; go_simp; try with_reducible rfl
  simp only [Act.put, List.setIfInBounds_toArray, List.set_cons_zero, List.set_cons_succ]
  refine regE_take (i := 12) (v := ?_) rfl (by kernel_rfl) (by kernel_rfl) (by kernel_rfl) (fun _ _ _ h => h) (by rfl) ?_ ?_
  rotate_left
  · intro W hW; go_simp; try with_reducible rfl
  simp only [Act.put, List.setIfInBounds_toArray, List.set_cons_zero, List.set_cons_succ]
  refine regE_take (i := 13) (v := ?_) rfl (by kernel_rfl) (by kernel_rfl) (by kernel_rfl) (fun _ _ _ h => h) (by rfl) ?_ ?_
  rotate_left
  · intro W hW; obtain ⟨⟨u0, u1, u2⟩, _, _⟩ := (hbx.below hW hbx.lt).three; go_simp; try with_reducible rfl
  simp only [Act.put, List.setIfInBounds_toArray, List.set_cons_zero, List.set_cons_succ]
  refine regE_take (i := 14) (v := ?_) rfl (by kernel_rfl) (by kernel_rfl) (by kernel_rfl) (fun _ _ _ h => h) (by rfl) ?_ ?_
  rotate_left
  · intro W hW; go_simp; try with_reducible rfl
  simp only [Act.put, List.setIfInBounds_toArray, List.set_cons_zero, List.set_cons_succ]
  refine regE_take (i := 15) (v := ?_) rfl (by kernel_rfl) (by kernel_rfl) (by kernel_rfl) (fun _ _ _ h => h) (by rfl) ?_ ?_
  rotate_left
  · intro W hW; go_simp; try with_reducible rfl
  simp only [Act.put, List.setIfInBounds_toArray, List.set_cons_zero, List.set_cons_succ]
  refine regE_take (i := 16) (v := ?_) rfl (by kernel_rfl) (by kernel_rfl) (by kernel_rfl) (fun _ _ _ h => h) (by rfl) ?_ ?_
  rotate_left
  · intro W hW; go_simp; try with_reducible rfl
  simp only [Act.put, List.setIfInBounds_toArray, List.set_cons_zero, List.set_cons_succ]
  refine regE_take (i := 17) (v := ?_) rfl (by kernel_rfl) (by kernel_rfl) (by kernel_rfl) (fun _ _ _ h => h) (by rfl) ?_ ?_
  rotate_left
  · intro W hW; go_simp; try with_reducible rfl
  simp only [Act.put, List.setIfInBounds_toArray, List.set_cons_zero, List.set_cons_succ]
  refine regE_take (i := 18) (v := ?_) rfl (by kernel_rfl) (by kernel_rfl) (by kernel_rfl) (fun _ _ _ h => h) (by rfl) ?_ ?_
  rotate_left
  · intro W hW; go_simp; try with_reducible rfl
  simp only [Act.put, List.setIfInBounds_toArray, List.set_cons_zero, List.set_cons_succ]
  refine regE_take (i := 19) (v := ?_) rfl (by kernel_rfl) (by kernel_rfl) (by kernel_rfl) (fun _ _ _ h => h) (by rfl) ?_ ?_
  rotate_left
  · intro W hW; obtain ⟨⟨u0, u1, u2⟩, _, _⟩ := (hbx.below hW hbx.lt).three; go_simp; try with_reducible rfl
  simp only [Act.put, List.setIfInBounds_toArray, List.set_cons_zero, List.set_cons_succ]
  refine regE_take (i := 20) (v := ?_) rfl (by kernel_rfl) (by kernel_rfl) (by kernel_rfl) (fun _ _ _ h => h) (by rfl) ?_ ?_
  rotate_left
  · intro W hW; go_simp; try with_reducible rfl
  simp only [Act.put, List.setIfInBounds_toArray, List.set_cons_zero, List.set_cons_succ]
  refine regE_take (i := 21) (v := ?_) rfl (by kernel_rfl) (by kernel_rfl) (by kernel_rfl) (fun _ _ _ h => h) (by rfl) ?_ ?_
  rotate_left
  · intro W hW; go_simp; try with_reducible rfl
  simp only [Act.put, List.setIfInBounds_toArray, List.set_cons_zero, List.set_cons_succ]
  refine regE_take (i := 22) (v := ?_) rfl (by kernel_rfl) (by kernel_rfl) (by kernel_rfl) (fun _ _ _ h => h) (by rfl) ?_ ?_
  rotate_left
  · intro W hW; go_simp; try with_reducible rfl
  simp only [Act.put, List.setIfInBounds_toArray, List.set_cons_zero, List.set_cons_succ]
  refine regE_done (by kernel_rfl) ?_
  go_wp2_with fail
  go_ret
  exact ⟨rfl, hE.trans hR⟩
end Go.Proofs.Ythepndimhiieiaa

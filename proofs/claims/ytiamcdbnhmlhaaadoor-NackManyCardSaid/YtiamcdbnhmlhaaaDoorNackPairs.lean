/- nack.takes, nack.Pairs. -/
import Derived.Test.YtiamcdbnhmlhaaaDoorNackSeqs
namespace Go.Proofs.YtiamcdbnhmlhaaaDoor
open Go.RowKit
theorem ret_bool {a b : Bool} (h : a = true ↔ b = true) : Ending.returned (.bool a) = .returned (.bool b) := by rw [Bool.eq_iff_iff.2 h]
theorem blen_table (T : ByteArray) (y : Nat) (hy : y < T.size) (h : ((List.range 256).all fun z => (T.data.getD z 0).toNat == blen z) = true) (h2 : y < 256) : (T[y]'hy).toNat = blen y := by
  have h3 := List.all_eq_true.1 h y (by simpa using h2)
  rw [beq_iff_eq] at h3
  rw [← h3]
  have hd : y < T.data.size := hy
  simp only [Array.getD, hd, dite_true]
  rfl
theorem blen_lt16 (m : Nat) (h : m < 256) : blen m ≤ 8 := by
  unfold blen
  split
  · omega
  · have := (Nat.log2_lt (k := 8) (by omega)).2 (by omega : m < 2 ^ 8)
    omega
theorem blen_high (m : Nat) (h : 256 ≤ m) : blen m = 8 + blen (m / 256) := by
  have h0 : m / 256 ≠ 0 := by omega
  unfold blen
  rw [if_neg (by omega), if_neg h0]
  have h1 := Nat.log2_self_le h0
  have h2 := Nat.lt_log2_self (n := m / 256)
  have : Nat.log2 m = Nat.log2 (m / 256) + 8 := by
    rw [Nat.log2_eq_iff (by omega)]
    have e1 : 2 ^ ((m / 256).log2 + 8) = 2 ^ (m / 256).log2 * 256 := by rw [Nat.pow_add]
    have e2 : 2 ^ ((m / 256).log2 + 8 + 1) = 2 ^ ((m / 256).log2 + 1) * 256 := by rw [show (m / 256).log2 + 8 + 1 = ((m / 256).log2 + 1) + 8 by omega, Nat.pow_add]
    rw [e1, e2]
    omega
  omega
set_option maxRecDepth 100000 in
theorem len16_any (m : Nat) (hm : m < 65536) (w : World) : Calls Tryd.prog 24 #[.int .u16 m] w fun e w' => e = .returned (.int .i64 (blen m)) ∧ w = w' := by
  by_cases h : 256 ≤ m
  · have hb := blen_high m h
    have hc := blen_lt16 (m / 256) (by omega)
    go_enter Tryd.func24, Tryd.ntmps24
    go_wp2_with fail
    go_ret
    refine ⟨?_, rfl⟩
    have e1 : wrap64 (8 + wrap64 ((blen (m / 256) : Nat) : Int)) = ((8 + blen (m / 256) : Nat) : Int) := by unfold wrap64; omega
    rw [blen_table _ (m / 256) _ (by kernel_rfl) (by omega), hb, e1]
    rfl
  · have hc := blen_lt16 m (by omega)
    go_enter Tryd.func24, Tryd.ntmps24
    go_wp2_with fail
    go_ret
    refine ⟨?_, rfl⟩
    have e1 : wrap64 (wrap64 ((blen m : Nat) : Int)) = ((blen m : Nat) : Int) := by unfold wrap64; omega
    rw [blen_table _ m _ (by kernel_rfl) (by omega), e1]
    rfl
theorem far_val (p : Pr) (n : UInt16) : IntKind.u16.wrap ((n.toNat : Int) - (p.1.toNat : Int)) = (far p n : Int) := by
  rw [IntKind.wrap_u16]
  unfold far
  have := p.1.toNat_lt
  have := n.toNat_lt
  rw [UInt16.toNat_sub]
  omega
theorem far_lt (p : Pr) (n : UInt16) : far p n < 65536 := UInt16.toNat_lt _
theorem takes_any (p : Pr) (n : UInt16) (w : World) : Calls Tryd.prog 19 #[.agg #[.int .u16 (p.1.toNat : Int), .int .u16 (p.2.toNat : Int)], .int .u16 (n.toNat : Int)] w fun e w' => e = .returned (.bool (takesN p n)) ∧ Ext w w' := by
  have hf := far_val p n
  have hf2 := far_lt p n
  have hm := p.2.toNat_lt
  have hT : takesN p n = decide (1 ≤ far p n ∧ far p n ≤ 16 ∧ blen p.2.toNat < far p n) := rfl
  have S := hide (fun W => len16_any p.2.toNat hm W)
  obtain ⟨F, hF⟩ : ∃ F, far p n = F := ⟨_, rfl⟩
  obtain ⟨b, hb⟩ : ∃ b, blen p.2.toNat = b := ⟨_, rfl⟩
  rw [hF] at hf hf2 hT
  rw [hb] at hT S
  rw [hT]
  have hw : IntKind.i64.wrap (F : Int) = F := IntWalk.i64_in _ (by omega)
  have hbx := Blk.new w 41 #[.int .u16 (p.1.toNat : Int), .int .u16 (p.2.toNat : Int)]
  have hE := (Ext.refl w).alloc (.cells #[.int .u16 (p.1.toNat : Int), .int .u16 (p.2.toNat : Int)] 41)
  clear hF hb hT
  go_enter Tryd.func19, Tryd.ntmps19
  by_cases h1 : 1 ≤ F
  · by_cases h2 : F ≤ 16
    · go_wp2_with (go_at_call 24; refine (S.out _).mono ?_; rintro e w' ⟨rfl, rfl⟩)
      go_ret
      exact ⟨ret_bool (by simp [h1, h2]), hE⟩
    · go_wp2_with fail
      go_ret
      exact ⟨ret_bool (by simp), hE⟩
  · go_wp2_with fail
    go_ret
    exact ⟨ret_bool (by simp), hE⟩
end Go.Proofs.YtiamcdbnhmlhaaaDoor

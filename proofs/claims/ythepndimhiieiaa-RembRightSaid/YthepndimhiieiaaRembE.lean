/- remb.Read, whatever the bytes are; Canon likewise. -/
import Derived.Test.YthepndimhiieiaaRembC
namespace Go.Proofs.Ythepndimhiieiaa
open Go.RowKit Go.Shelf
attribute [local go_sem] Oper.semAt_some
def rbE (b : List UInt8) : Int :=
  if 65520 < b.length ∨ b.length % 4 ≠ 0 then 4 else if b.length < 8 then 2 else if b.take 4 ≠ [82, 69, 77, 66] then 6
  else if b.length / 4 - 2 < (b.getD 4 0).toNat then 2 else if (b.getD 4 0).toNat < b.length / 4 - 2 then 4 else 0
def rbX (b : List UInt8) : Nat := if rbE b = 0 then lsX (getV b 5 3 / 262144) (getV b 5 3 % 262144) else 0
def rbM (b : List UInt8) : Nat := if rbE b = 0 then lsM (getV b 5 3 / 262144) (getV b 5 3 % 262144) else 0
def rbL (b : List UInt8) : List UInt32 := if rbE b = 0 then cs (b.getD 4 0).toNat (b.drop 8) else []
set_option maxRecDepth 100000 in
set_option maxHeartbeats 1000000 in
theorem read17_len (A : Option Addr) (n c : Nat) (w : World) (h : 65520 < n ∨ n % 4 ≠ 0) : Calls Try.prog 47 #[.slice A n c] w fun e w' => e = .returned (.tuple #[.agg #[.int .i64 0, .int .u32 0, .slice none 0 0], .int .i64 4]) ∧ Ext w w' := by
  by_cases h1 : 65520 < n
  · have d1 : (65520 : Int) < (n : Int) := by omega
    go_enter Try.func47, Try.ntmps47
    go_wp2_with fail
    exact bodyPost_ret (v := .tuple #[.agg #[.int .i64 0, .int .u32 0, .slice none 0 0], .int .i64 4]) (by simp [results, Try.results47, go_sem]) rfl ⟨rfl, ((Ext.refl _).alloc _)⟩
  · have d1 : ¬ (65520 : Int) < (n : Int) := by omega
    have d2 : (0 : Int) < (n : Int) % 4 := by omega
    go_enter Try.func47, Try.ntmps47
    go_wp2_with fail
    exact bodyPost_ret (v := .tuple #[.agg #[.int .i64 0, .int .u32 0, .slice none 0 0], .int .i64 4]) (by simp [results, Try.results47, go_sem]) rfl ⟨rfl, ((Ext.refl _).alloc _)⟩
set_option maxRecDepth 100000 in
set_option maxHeartbeats 1000000 in
theorem read17_short (A : Option Addr) (n c : Nat) (w : World) (h : n < 8) (h4 : n % 4 = 0) : Calls Try.prog 47 #[.slice A n c] w fun e w' => e = .returned (.tuple #[.agg #[.int .i64 0, .int .u32 0, .slice none 0 0], .int .i64 2]) ∧ Ext w w' := by
  have d1 : ¬ (65520 : Int) < (n : Int) := by omega
  have d2 : ¬ (0 : Int) < (n : Int) % 4 := by omega
  have d3 : (n : Int) < 8 := by omega
  go_enter Try.func47, Try.ntmps47
  go_wp2_with fail
  exact bodyPost_ret (v := .tuple #[.agg #[.int .i64 0, .int .u32 0, .slice none 0 0], .int .i64 2]) (by simp [results, Try.results47, go_sem]) rfl ⟨rfl, ((Ext.refl _).alloc _)⟩
set_option maxRecDepth 100000 in
set_option maxHeartbeats 1000000 in
theorem read17_magic (g o n c : Nat) (b : List UInt8) (w : World) (hb : Bytes w (some ⟨g, o, none⟩) n c b) (h8 : 8 ≤ n) (hN : n ≤ 65520) (h4 : n % 4 = 0) (ht : b.take 4 ≠ [82, 69, 77, 66]) : Calls Try.prog 47 #[.slice (some ⟨g, o, none⟩) n c] w fun e w' => e = .returned (.tuple #[.agg #[.int .i64 0, .int .u32 0, .slice none 0 0], .int .i64 6]) ∧ Ext w w' := by
  have hnc := hb.le
  have hP := hb.part (lo := 0) (hi := 4) (m := 4) (c' := c) (by omega) (by omega) rfl (by omega) hb.reach
  rw [List.drop_zero, Nat.add_zero] at hP
  have s1 := run_str (hP.alloc (.cells #[.int .i64 0, .int .u32 0, .slice none 0 0] 84))
  obtain ⟨y, hy⟩ : ∃ y, b.take 4 = y := ⟨_, rfl⟩
  rw [hy] at s1 ht hP
  have hne3 : (y == [82, 69, 77, 66]) = false := beq_eq_false_iff_ne.2 ht
  have d1 : ¬ (65520 : Int) < (n : Int) := by omega
  have d2 : ¬ (0 : Int) < (n : Int) % 4 := by omega
  have d3 : ¬ (n : Int) < 8 := by omega
  clear hy ht
  go_enter Try.func47, Try.ntmps47
  go_wp2_with fail
  exact bodyPost_ret (v := .tuple #[.agg #[.int .i64 0, .int .u32 0, .slice none 0 0], .int .i64 6]) (by simp [results, Try.results47, go_sem]) rfl ⟨rfl, ((Ext.refl _).alloc _)⟩
set_option maxRecDepth 100000 in
set_option maxHeartbeats 1000000 in
theorem read17_many (g o n c : Nat) (b : List UInt8) (w : World) (hb : Bytes w (some ⟨g, o, none⟩) n c b) (h8 : 8 ≤ n) (hN : n ≤ 65520) (h4 : n % 4 = 0) (ht : b.take 4 = [82, 69, 77, 66]) (E : Int) (hE : (n / 4 - 2 < (b.getD 4 0).toNat ∧ E = 2) ∨ ((b.getD 4 0).toNat < n / 4 - 2 ∧ E = 4)) : Calls Try.prog 47 #[.slice (some ⟨g, o, none⟩) n c] w fun e w' => e = .returned (.tuple #[.agg #[.int .i64 0, .int .u32 0, .slice none 0 0], .int .i64 E]) ∧ Ext w w' := by
  have hnc := hb.le
  have hP := hb.part (lo := 0) (hi := 4) (m := 4) (c' := c) (by omega) (by omega) rfl (by omega) hb.reach
  rw [List.drop_zero, ht, Nat.add_zero] at hP
  have s1 := run_str (hP.alloc (.cells #[.int .i64 0, .int .u32 0, .slice none 0 0] 84))
  have hbs : (⟨[82, 69, 77, 66].toArray⟩ : ByteArray) = ⟨#[82, 69, 77, 66]⟩ := rfl
  rw [hbs] at s1
  have c4 := (hb.alloc (.cells #[.int .i64 0, .int .u32 0, .slice none 0 0] 84)).cellAt 4 (by omega)
  obtain ⟨k, hk⟩ : ∃ k, (b.getD 4 0).toNat = k := ⟨_, rfl⟩
  have hk2 := (b.getD 4 0).toNat_lt
  rw [hk] at c4 hE hk2
  obtain ⟨m, hm⟩ : ∃ m, n / 4 - 2 = m := ⟨_, rfl⟩
  have d1 : ¬ (65520 : Int) < (n : Int) := by omega
  have d2 : ¬ (0 : Int) < (n : Int) % 4 := by omega
  have d3 : ¬ (n : Int) < 8 := by omega
  have d4 : (n : Int) / 4 - 2 = (m : Int) := by omega
  have d5 : IntKind.i64.wrap ((n : Int) / 4 - 2) = (m : Int) := by rw [d4, IntWalk.i64_in _ (by omega)]
  rw [hm] at hE
  clear hk ht hm hbs
  rcases hE with ⟨h1, rfl⟩ | ⟨h1, rfl⟩
  · have d6 : (m : Int) < (k : Int) := by omega
    go_enter Try.func47, Try.ntmps47
    go_wp2_with fail
    exact bodyPost_ret (v := .tuple #[.agg #[.int .i64 0, .int .u32 0, .slice none 0 0], .int .i64 2]) (by simp [results, Try.results47, go_sem]) rfl ⟨rfl, ((Ext.refl _).alloc _)⟩
  · have d6 : ¬ (m : Int) < (k : Int) := by omega
    have d7 : (k : Int) < (m : Int) := by omega
    go_enter Try.func47, Try.ntmps47
    go_wp2_with fail
    exact bodyPost_ret (v := .tuple #[.agg #[.int .i64 0, .int .u32 0, .slice none 0 0], .int .i64 4]) (by simp [results, Try.results47, go_sem]) rfl ⟨rfl, ((Ext.refl _).alloc _)⟩
/-- remb.Read, whatever the bytes are. -/
theorem read17_any (A : Option Addr) (n c : Nat) (b : List UInt8) (w : World) (hb : Bytes w A n c b) : Calls Try.prog 47 #[.slice A n c] w fun e w' =>
    ∃ A' c', e = .returned (.tuple #[.agg #[.int .i64 (rbX b : Int), .int .u32 ((rbM b) : Int), .slice A' (rbL b).length c'], .int .i64 (rbE b)]) ∧ Els e32 w' A' (rbL b).length c' (rbL b) ∧ Ext w w' := by
  have hlen := hb.len
  have hz : ∀ E : Int, rbE b = E → E ≠ 0 → ∀ e w', (e = Ending.returned (.tuple #[.agg #[.int .i64 0, .int .u32 0, .slice none 0 0], .int .i64 E]) ∧ Ext w w') → ∃ A' c', e = .returned (.tuple #[.agg #[.int .i64 (rbX b : Int), .int .u32 ((rbM b) : Int), .slice A' (rbL b).length c'], .int .i64 (rbE b)]) ∧ Els e32 w' A' (rbL b).length c' (rbL b) ∧ Ext w w' := by
    rintro E hE0 hne e w' ⟨rfl, hX⟩
    have q1 : rbX b = 0 := by unfold rbX; rw [if_neg (by rw [hE0]; exact hne)]
    have q2 : rbM b = 0 := by unfold rbM; rw [if_neg (by rw [hE0]; exact hne)]
    have q3 : rbL b = [] := by unfold rbL; rw [if_neg (by rw [hE0]; exact hne)]
    rw [q1, q2, q3, hE0]
    exact ⟨none, 0, rfl, Els.nil _, hX⟩
  by_cases h1 : 65520 < n ∨ n % 4 ≠ 0
  · exact (read17_len A n c w h1).mono fun e w' h => hz 4 (by unfold rbE; rw [if_pos (by omega)]) (by decide) e w' h
  by_cases h2 : n < 8
  · exact (read17_short A n c w h2 (by omega)).mono fun e w' h => hz 2 (by unfold rbE; rw [if_neg (by omega), if_pos (by omega)]) (by decide) e w' h
  obtain ⟨g, o, rfl, hg⟩ := hb.form (by omega)
  by_cases h3 : b.take 4 = [82, 69, 77, 66]
  case neg => exact (read17_magic g o n c b w hb (by omega) (by omega) (by omega) h3).mono fun e w' h => hz 6 (by unfold rbE; rw [if_neg (by omega), if_neg (by omega), if_pos h3]) (by decide) e w' h
  have h3' : ¬ (b.take 4 ≠ [82, 69, 77, 66]) := fun h => h h3
  by_cases h4 : n / 4 - 2 < (b.getD 4 0).toNat
  · exact (read17_many g o n c b w hb (by omega) (by omega) (by omega) h3 2 (.inl ⟨h4, rfl⟩)).mono fun e w' h => hz 2 (by unfold rbE; rw [if_neg (by omega), if_neg (by omega), if_neg h3', if_pos (by omega)]) (by decide) e w' h
  by_cases h5 : (b.getD 4 0).toNat < n / 4 - 2
  · exact (read17_many g o n c b w hb (by omega) (by omega) (by omega) h3 4 (.inr ⟨h5, rfl⟩)).mono fun e w' h => hz 4 (by unfold rbE; rw [if_neg (by omega), if_neg (by omega), if_neg h3', if_neg (by omega), if_pos (by omega)]) (by decide) e w' h
  have e0 : rbE b = 0 := by unfold rbE; rw [if_neg (by omega), if_neg (by omega), if_neg h3', if_neg (by omega), if_neg (by omega)]
  have e1 : rbL b = cs (b.getD 4 0).toNat (b.drop 8) := by unfold rbL; rw [if_pos e0]
  have e2 : (rbL b).length = (b.getD 4 0).toNat := by rw [e1, cs_len]
  rw [e0, e2, e1]
  exact read17_ok _ g o n c b w hb (by omega) (by omega) h3 rfl _ _ (by unfold rbX; rw [if_pos e0]) (by unfold rbM; rw [if_pos e0])
end Go.Proofs.Ythepndimhiieiaa

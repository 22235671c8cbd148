/- Package octet, each function by one contract for every input. -/
import Derived.Test.YtiamcdbnhmlhaaaSigned
import Derived.Test.YtiamcdbnhmlhaaaPlainOct
import Derived.Test.YtiamcdbnhmlhaaaOctGP
namespace Go.Proofs.Ytiamcdbnhmlhaaa
open Go.RowKit

theorem signed_any (A : Option Addr) (len c : Nat) (l : List UInt8) (at_ n : Int) (w : World) (hb : Bytes w A len c l) :
    Calls Try.prog 25 #[.slice A len c, .int .i64 at_, .int .i64 n] w fun e w' => e = .returned (.tuple #[.int .i64 (sgV l at_ n), .int .i64 (getE l.length at_ n)]) ∧ w = w' := by
  have hlen := hb.len
  by_cases h1 : n < 1 ∨ 8 < n ∨ at_ < 0
  · have e : getE l.length at_ n = 1 := by unfold getE; rw [if_pos h1]
    have e2 : sgV l at_ n = 0 := by unfold sgV; rw [e, if_neg (by decide)]
    rw [e, e2]
    exact signed_arg A len c at_ n w h1
  · by_cases h2 : (l.length : Int) < at_ + n
    · have e : getE l.length at_ n = 2 := by unfold getE; rw [if_neg h1, if_pos h2]
      have e2 : sgV l at_ n = 0 := by unfold sgV; rw [e, if_neg (by decide)]
      rw [e, e2]
      exact signed_short A len c at_ n w hb.le hb.reach (by omega) (by omega) (by omega) (by omega)
    · have e : getE l.length at_ n = 0 := by unfold getE; rw [if_neg h1, if_neg h2]
      have e2 : sgV l at_ n = sval n.toNat (val ((l.drop at_.toNat).take n.toNat)) := by unfold sgV; rw [if_pos e]
      rw [e, e2]
      have := signed_ok A len c l at_.toNat n.toNat w hb (by omega) (by omega) (by omega)
      rwa [Int.toNat_of_nonneg (by omega), Int.toNat_of_nonneg (by omega)] at this
theorem psigned_any (v : Int) (n : Int) (w : World) (h3 : -9223372036854775808 ≤ v) (h4 : v ≤ 9223372036854775807) :
    Calls Try.prog 24 #[.int .i64 v, .int .i64 n] w fun e w' => ∃ A k c, e = .returned (.tuple #[.slice A k c, .int .i64 (psE v n)]) ∧ w'.ownsRow w.heap.size 5 1 (.slice A k c) k ((psL v n).map Bv) ∧ Ext w w' := by
  by_cases h1 : n < 1 ∨ 8 < n
  · have e : psE v n = 1 := by unfold psE; rw [if_pos h1]
    have e2 : psL v n = [] := by unfold psL; rw [e, if_neg (by decide)]
    rw [e, e2]
    exact (psigned_arg v n w h1).mono fun e w' ⟨he, hE⟩ => ⟨none, 0, 0, he, World.ownsRow_nil _ _ _ _, hE⟩
  · obtain ⟨m, rfl⟩ : ∃ m : Nat, n = m := ⟨n.toNat, by omega⟩
    by_cases h2 : sfits m v
    · have e : psE v m = 0 := by unfold psE; rw [if_neg h1, Int.toNat_natCast, if_pos h2]
      have e2 : psL v m = be m (suns m v) := by unfold psL; rw [if_pos e, Int.toNat_natCast]
      rw [e, e2]
      exact (psigned_ok v m w (by omega) (by omega) h2).mono fun e w' ⟨A, c, he, ho, hE⟩ => ⟨A, m, c, he, ho, hE⟩
    · have e : psE v m = 6 := by unfold psE; rw [if_neg h1, Int.toNat_natCast, if_neg h2]
      have e2 : psL v m = [] := by unfold psL; rw [e, if_neg (by decide)]
      rw [e, e2]
      exact (psigned_field v m w (by omega) (by omega) h3 h4 h2).mono fun e w' ⟨he, hE⟩ => ⟨none, 0, 0, he, World.ownsRow_nil _ _ _ _, hE⟩
theorem set_any (A : Option Addr) (len c : Nat) (l : List UInt8) (at_ n : Int) (v : Nat) (w : World) (hb : Bytes w A len c l) (hl : len ≤ 35184372088832) (hv : v < 18446744073709551616) :
    Calls Try.prog 12 #[.slice A len c, .int .i64 at_, .int .i64 n, .int .u64 v] w fun e w' => ∃ A' k c', e = .returned (.tuple #[.slice A' k c', .int .i64 (setE l.length at_ n v)]) ∧
      w'.ownsRow w.heap.size 5 1 (.slice A' k c') k ((setL l at_ n v).map Bv) ∧ Ext w w' := by
  have hlen := hb.len
  by_cases h1 : n < 1 ∨ 8 < n
  · have e : setE l.length at_ n v = 1 := by unfold setE putE; simp [h1]
    rw [e, setL_fail (by rw [e]; decide)]
    exact (set_put_arg A len c at_ n v w h1).mono fun e w' ⟨he, hE⟩ => ⟨none, 0, 0, he, World.ownsRow_nil _ _ _ _, hE⟩
  · obtain ⟨m, rfl⟩ : ∃ m : Nat, n = m := ⟨n.toNat, by omega⟩
    by_cases h2 : v < 256 ^ m
    · have hp : putE v m = 0 := by unfold putE; rw [if_neg h1, Int.toNat_natCast, if_pos h2]
      by_cases h3 : at_ < 0
      · have e : setE l.length at_ m v = 1 := by unfold setE; simp [hp, h3]
        rw [e, setL_fail (by rw [e]; decide)]
        exact (set_arg A len c at_ m v w (by omega) (by omega) h2 h3).mono fun e w' ⟨he, hE⟩ => ⟨none, 0, 0, he, World.ownsRow_nil _ _ _ _, hE⟩
      · by_cases h4 : (l.length : Int) < at_ + m
        · have e : setE l.length at_ m v = 2 := by unfold setE; simp [hp, h3, h4]
          rw [e, setL_fail (by rw [e]; decide)]
          exact (set_short A len c at_ m v w hb.le hb.reach (by omega) (by omega) h2 (by omega) (by omega)).mono fun e w' ⟨he, hE⟩ => ⟨none, 0, 0, he, World.ownsRow_nil _ _ _ _, hE⟩
        · have e : setE l.length at_ m v = 0 := by unfold setE; simp [hp, h3, h4]
          obtain ⟨a, rfl⟩ : ∃ a : Nat, at_ = a := ⟨at_.toNat, by omega⟩
          have e2 : setL l a m v = l.take a ++ be m v ++ l.drop (a + m) := by unfold setL splice; rw [if_pos e, be_length, Int.toNat_natCast, Int.toNat_natCast]
          rw [e, e2]
          exact (set_ok A len c l a m v w hb hl (by omega) (by omega) h2 (by omega)).mono fun e w' ⟨A', c', he, ho, hE⟩ => ⟨A', len, c', he, ho, hE⟩
    · have hp : putE v m = 6 := by unfold putE; rw [if_neg h1, Int.toNat_natCast, if_neg h2]
      have e : setE l.length at_ m v = 6 := by unfold setE; simp [hp]
      have h8 : m < 8 := by
        rcases Nat.lt_or_ge m 8 with h | h
        · exact h
        · obtain rfl : m = 8 := by omega
          omega
      rw [e, setL_fail (by rw [e]; decide)]
      exact (set_put_field A len c at_ m v w (by omega) h8 (by omega)).mono fun e w' ⟨he, hE⟩ => ⟨none, 0, 0, he, World.ownsRow_nil _ _ _ _, hE⟩
theorem part_any (A : Option Addr) (len c : Nat) (l : List UInt8) (at_ n : Int) (w : World) (hb : Bytes w A len c l) (hl : len ≤ 35184372088832) :
    Calls Try.prog 21 #[.slice A len c, .int .i64 at_, .int .i64 n] w fun e w' => ∃ A' k c', e = .returned (.tuple #[.slice A' k c', .int .i64 (partE l.length at_ n)]) ∧ w'.ownsRow w.heap.size 5 1 (.slice A' k c') k ((partL l at_ n).map Bv) ∧ Ext w w' := by
  have hlen := hb.len
  by_cases h1 : n < 0 ∨ at_ < 0
  · have e : partE l.length at_ n = 1 := by unfold partE; rw [if_pos h1]
    have e2 : partL l at_ n = [] := by unfold partL; rw [e, if_neg (by decide)]
    rw [e, e2]
    exact (part_arg A len c at_ n w h1).mono fun e w' ⟨he, hE⟩ => ⟨none, 0, 0, he, World.ownsRow_nil _ _ _ _, by rw [← hE]; exact Ext.refl _⟩
  · by_cases h2 : (l.length : Int) < at_ + n
    · have e : partE l.length at_ n = 2 := by unfold partE; rw [if_neg h1, if_pos h2]
      have e2 : partL l at_ n = [] := by unfold partL; rw [e, if_neg (by decide)]
      rw [e, e2]
      exact (part_short A len c at_ n w hb.le hb.reach (by omega) (by omega) (by omega)).mono fun e w' ⟨he, hE⟩ => ⟨none, 0, 0, he, World.ownsRow_nil _ _ _ _, by rw [← hE]; exact Ext.refl _⟩
    · have e : partE l.length at_ n = 0 := by unfold partE; rw [if_neg h1, if_neg h2]
      have e2 : partL l at_ n = (l.drop at_.toNat).take n.toNat := by unfold partL; rw [if_pos e]
      rw [e, e2]
      have := part_ok A len c l at_.toNat n.toNat w hb (by omega) (by omega)
      rw [Int.toNat_of_nonneg (by omega), Int.toNat_of_nonneg (by omega)] at this
      exact this.mono fun e w' ⟨A', c', he, ho, hE⟩ => ⟨A', n.toNat, c', he, ho, hE⟩
end Go.Proofs.Ytiamcdbnhmlhaaa

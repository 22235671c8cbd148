/- Package octet, each function by one contract for every input. -/
import Derived.Test.YthepndimhiieiaaSigned
import Derived.Test.YthepndimhiieiaaPlainOct
import Derived.Test.YthepndimhiieiaaOctGP
namespace Go.Proofs.Ythepndimhiieiaa
open Go.RowKit

theorem signed_any (A : Option Addr) (len c : Nat) (l : List UInt8) (at_ n : Int) (w : World) (hb : Bytes w A len c l) :
    Calls Try.prog 96 #[.slice A len c, .int .i64 at_, .int .i64 n] w fun e w' => e = .returned (.tuple #[.int .i64 (sgV l at_ n), .int .i64 (getE l.length at_ n)]) ∧ w = w' := by
  have hlen := hb.len
  by_cases h1 : n < 1 ∨ 8 < n ∨ at_ < 0
  · have e : getE l.length at_ n = 1 := by unfold getE; rw [if_pos h1]
    have e2 : sgV l at_ n = 0 := by unfold sgV; rw [e, if_neg (by decide)]
    rw [e, e2]
    exact signed_arg A len c at_ n w h1
  · by_cases h2 : (l.length : Int) < at_ + n
    · have e : getE l.length at_ n = 2 := by unfold getE; rw [if_neg h1, if_pos h2]
      have e2 : sgV l at_ n = 0 := by unfold sgV; rw [e, if_neg (by decide)]
      rw [e, e2]
      exact signed_short A len c at_ n w hb.le hb.reach (by omega) (by omega) (by omega) (by omega)
    · have e : getE l.length at_ n = 0 := by unfold getE; rw [if_neg h1, if_neg h2]
      have e2 : sgV l at_ n = sval n.toNat (val ((l.drop at_.toNat).take n.toNat)) := by unfold sgV; rw [if_pos e]
      rw [e, e2]
      have := signed_ok A len c l at_.toNat n.toNat w hb (by omega) (by omega) (by omega)
      rwa [Int.toNat_of_nonneg (by omega), Int.toNat_of_nonneg (by omega)] at this
theorem psigned_any (v : Int) (n : Int) (w : World) (h3 : -9223372036854775808 ≤ v) (h4 : v ≤ 9223372036854775807) :
    Calls Try.prog 65 #[.int .i64 v, .int .i64 n] w fun e w' => ∃ A k c, e = .returned (.tuple #[.slice A k c, .int .i64 (psE v n)]) ∧ w'.ownsRow w.heap.size 5 1 (.slice A k c) k ((psL v n).map Bv) ∧ Ext w w' := by
  by_cases h1 : n < 1 ∨ 8 < n
  · have e : psE v n = 1 := by unfold psE; rw [if_pos h1]
    have e2 : psL v n = [] := by unfold psL; rw [e, if_neg (by decide)]
    rw [e, e2]
    exact (psigned_arg v n w h1).mono fun e w' ⟨he, hE⟩ => ⟨none, 0, 0, he, World.ownsRow_nil _ _ _ _, hE⟩
  · obtain ⟨m, rfl⟩ : ∃ m : Nat, n = m := ⟨n.toNat, by omega⟩
    by_cases h2 : sfits m v
    · have e : psE v m = 0 := by unfold psE; rw [if_neg h1, Int.toNat_natCast, if_pos h2]
      have e2 : psL v m = be m (suns m v) := by unfold psL; rw [if_pos e, Int.toNat_natCast]
      rw [e, e2]
      exact (psigned_ok v m w (by omega) (by omega) h2).mono fun e w' ⟨A, c, he, ho, hE⟩ => ⟨A, m, c, he, ho, hE⟩
    · have e : psE v m = 6 := by unfold psE; rw [if_neg h1, Int.toNat_natCast, if_neg h2]
      have e2 : psL v m = [] := by unfold psL; rw [e, if_neg (by decide)]
      rw [e, e2]
      exact (psigned_field v m w (by omega) (by omega) h3 h4 h2).mono fun e w' ⟨he, hE⟩ => ⟨none, 0, 0, he, World.ownsRow_nil _ _ _ _, hE⟩
end Go.Proofs.Ythepndimhiieiaa

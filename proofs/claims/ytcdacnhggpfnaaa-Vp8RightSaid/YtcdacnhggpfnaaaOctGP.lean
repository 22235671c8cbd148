/- octet.Get and octet.Put, each by one contract for every input. -/
import Derived.Test.YtcdacnhggpfnaaaPut
import Derived.Test.YtcdacnhggpfnaaaAppend
import Derived.Test.YtcdacnhggpfnaaaPlainOct
namespace Go.Proofs.Ytcdacnhggpfnaaa
open Go.RowKit

theorem get_any (A : Option Addr) (len c : Nat) (l : List UInt8) (at_ n : Int) (w : World) (hb : Bytes w A len c l) :
    Calls Try.prog 83 #[.slice A len c, .int .i64 at_, .int .i64 n] w fun e w' => e = .returned (.tuple #[.int .u64 (getV l at_ n), .int .i64 (getE l.length at_ n)]) ∧ w = w' := by
  have hlen := hb.len
  by_cases h1 : n < 1 ∨ 8 < n ∨ at_ < 0
  · have e : getE l.length at_ n = 1 := by unfold getE; rw [if_pos h1]
    have e2 : getV l at_ n = 0 := by unfold getV; rw [e, if_neg (by decide)]
    rw [e, e2]
    exact get_arg A len c at_ n w h1
  · by_cases h2 : (l.length : Int) < at_ + n
    · have e : getE l.length at_ n = 2 := by unfold getE; rw [if_neg h1, if_pos h2]
      have e2 : getV l at_ n = 0 := by unfold getV; rw [e, if_neg (by decide)]
      rw [e, e2]
      exact get_short A len c at_ n w hb.le hb.reach (by omega) (by omega) (by omega) (by omega)
    · have e : getE l.length at_ n = 0 := by unfold getE; rw [if_neg h1, if_neg h2]
      have e2 : getV l at_ n = val ((l.drop at_.toNat).take n.toNat) := by unfold getV; rw [if_pos e]
      rw [e, e2]
      have := get_ok A len c l at_.toNat n.toNat w hb (by omega) (by omega) (by omega)
      rwa [Int.toNat_of_nonneg (by omega), Int.toNat_of_nonneg (by omega)] at this
theorem put_any (v : Nat) (n : Int) (w : World) (hv : v < 18446744073709551616) :
    Calls Try.prog 49 #[.int .u64 v, .int .i64 n] w fun e w' => ∃ A k c, e = .returned (.tuple #[.slice A k c, .int .i64 (putE v n)]) ∧ w'.ownsRow w.heap.size 5 1 (.slice A k c) k ((putL v n).map Bv) ∧ Ext w w' := by
  by_cases h1 : n < 1 ∨ 8 < n
  · have e : putE v n = 1 := by unfold putE; rw [if_pos h1]
    have e2 : putL v n = [] := by unfold putL; rw [e, if_neg (by decide)]
    rw [e, e2]
    exact (put_arg v n w h1).mono fun e w' ⟨he, hE⟩ => ⟨none, 0, 0, he, World.ownsRow_nil _ _ _ _, hE⟩
  · obtain ⟨m, rfl⟩ : ∃ m : Nat, n = m := ⟨n.toNat, by omega⟩
    by_cases h2 : v < 256 ^ m
    · have e : putE v m = 0 := by unfold putE; rw [if_neg h1, Int.toNat_natCast, if_pos h2]
      have e2 : putL v m = be m v := by unfold putL; rw [if_pos e, Int.toNat_natCast]
      rw [e, e2]
      exact (put_ok v m w (by omega) (by omega) h2).mono fun e w' ⟨A, c, he, ho, hE⟩ => ⟨A, m, c, he, ho, hE⟩
    · have e : putE v m = 6 := by unfold putE; rw [if_neg h1, Int.toNat_natCast, if_neg h2]
      have e2 : putL v m = [] := by unfold putL; rw [e, if_neg (by decide)]
      have h8 : m < 8 := by
        rcases Nat.lt_or_ge m 8 with h | h
        · exact h
        · obtain rfl : m = 8 := by omega
          omega
      rw [e, e2]
      exact (put_field v m w (by omega) h8 (by omega)).mono fun e w' ⟨he, hE⟩ => ⟨none, 0, 0, he, World.ownsRow_nil _ _ _ _, hE⟩
theorem get_B (A : Option Addr) (len c : Nat) (l : List UInt8) (at_ n : Int) (w : World) (hb : Bytes w A len c l) (v : Nat) (hv : getV l at_ n = v) (E : Int) (hE : getE l.length at_ n = E) :
    Calls Try.prog 83 #[.slice A len c, .int .i64 at_, .int .i64 n] w fun e w' => e = .returned (.tuple #[.int .u64 v, .int .i64 E]) ∧ w = w' := by
  subst hv hE
  exact get_any A len c l at_ n w hb

theorem put_B (v : Nat) (n : Int) (w : World) (hv : v < 18446744073709551616) (x : List UInt8) (hx : putL v n = x) (E : Int) (hE : putE v n = E) :
    Calls Try.prog 49 #[.int .u64 v, .int .i64 n] w fun e w' => ∃ A c, e = .returned (.tuple #[.slice A x.length c, .int .i64 E]) ∧ Bytes w' A x.length c x ∧ Ext w w' := by
  subst hx hE
  exact (put_any v n w hv).mono fun e w' ⟨A', k, c', he, ho, hE⟩ => by
    have hB := Bytes.own ho
    obtain rfl := hB.len
    exact ⟨A', c', he, hB, hE⟩
end Go.Proofs.Ytcdacnhggpfnaaa

/- Package octet, for the walk of a law: the results by name, a fresh world, what it reads. -/
import Derived.Test.YthepndimhiieiaaOctAny
namespace Go.Proofs.Ythepndimhiieiaa
open Go.RowKit

/-- octet.Join, for the walk of a law. -/
theorem join_B (A : Option Addr) (k c : Nat) (ls : List (List UInt8)) (w : World) (h : Slices w A k c ls) (hn : (cat ls).length ≤ 70368744177664) (x : List UInt8) (hx : cat ls = x) :
    Calls Try.prog 81 #[.slice A k c] w fun e w' => ∃ A' c', e = .returned (.slice A' x.length c') ∧ Bytes w' A' x.length c' x ∧ Ext w w' := by
  subst hx
  exact (join_any A k c ls w h hn).mono fun e w' ⟨A', c', he, ho, hE⟩ => ⟨A', c', he, Bytes.own ho, hE⟩

theorem psigned_B (v : Int) (n : Int) (w : World) (h3 : -9223372036854775808 ≤ v) (h4 : v ≤ 9223372036854775807) (x : List UInt8) (hx : psL v n = x) (E : Int) (hE : psE v n = E) :
    Calls Try.prog 65 #[.int .i64 v, .int .i64 n] w fun e w' => ∃ A c, e = .returned (.tuple #[.slice A x.length c, .int .i64 E]) ∧ Bytes w' A x.length c x ∧ Ext w w' := by
  subst hx hE
  exact (psigned_any v n w h3 h4).mono fun e w' ⟨A', k, c', he, ho, hE⟩ => by
    have hB := Bytes.own ho
    obtain rfl := hB.len
    exact ⟨A', c', he, hB, hE⟩
theorem signed_B (A : Option Addr) (len c : Nat) (l : List UInt8) (at_ n : Int) (w : World) (hb : Bytes w A len c l) (v : Int) (hv : sgV l at_ n = v) (E : Int) (hE : getE l.length at_ n = E) :
    Calls Try.prog 96 #[.slice A len c, .int .i64 at_, .int .i64 n] w fun e w' => e = .returned (.tuple #[.int .i64 v, .int .i64 E]) ∧ w = w' := by
  subst hv hE
  exact signed_any A len c l at_ n w hb

end Go.Proofs.Ythepndimhiieiaa

/- Package octet, for the walk of a law: the results by name, a fresh world, what it reads. -/
import Derived.Test.YtcdacnhggpfnaaaOctAny
namespace Go.Proofs.Ytcdacnhggpfnaaa
open Go.RowKit

/-- octet.Part, for the walk of a law. -/
theorem part_B (A : Option Addr) (len c : Nat) (l : List UInt8) (at_ n : Int) (w : World) (hb : Bytes w A len c l) (hl : len ≤ 35184372088832) (x : List UInt8) (hx : partL l at_ n = x) (E : Int) (hE : partE l.length at_ n = E) :
    Calls Try.prog 86 #[.slice A len c, .int .i64 at_, .int .i64 n] w fun e w' => ∃ A' c', e = .returned (.tuple #[.slice A' x.length c', .int .i64 E]) ∧ Bytes w' A' x.length c' x ∧ Ext w w' := by
  subst hx hE
  exact (part_any A len c l at_ n w hb hl).mono fun e w' ⟨A', k, c', he, ho, hE⟩ => by
    have hB := Bytes.own ho
    obtain rfl := hB.len
    exact ⟨A', c', he, hB, hE⟩
/-- octet.Join, for the walk of a law. -/
theorem join_B (A : Option Addr) (k c : Nat) (ls : List (List UInt8)) (w : World) (h : Slices w A k c ls) (hn : (cat ls).length ≤ 70368744177664) (x : List UInt8) (hx : cat ls = x) :
    Calls Try.prog 64 #[.slice A k c] w fun e w' => ∃ A' c', e = .returned (.slice A' x.length c') ∧ Bytes w' A' x.length c' x ∧ Ext w w' := by
  subst hx
  exact (join_any A k c ls w h hn).mono fun e w' ⟨A', c', he, ho, hE⟩ => ⟨A', c', he, Bytes.own ho, hE⟩

end Go.Proofs.Ytcdacnhggpfnaaa

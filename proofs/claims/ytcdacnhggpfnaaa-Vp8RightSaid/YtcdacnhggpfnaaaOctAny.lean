/- Package octet, each function by one contract for every input. -/
import Derived.Test.YtcdacnhggpfnaaaSigned
import Derived.Test.YtcdacnhggpfnaaaPlainOct
import Derived.Test.YtcdacnhggpfnaaaOctGP
namespace Go.Proofs.Ytcdacnhggpfnaaa
open Go.RowKit

theorem part_any (A : Option Addr) (len c : Nat) (l : List UInt8) (at_ n : Int) (w : World) (hb : Bytes w A len c l) (hl : len ≤ 35184372088832) :
    Calls Try.prog 86 #[.slice A len c, .int .i64 at_, .int .i64 n] w fun e w' => ∃ A' k c', e = .returned (.tuple #[.slice A' k c', .int .i64 (partE l.length at_ n)]) ∧ w'.ownsRow w.heap.size 5 1 (.slice A' k c') k ((partL l at_ n).map Bv) ∧ Ext w w' := by
  have hlen := hb.len
  by_cases h1 : n < 0 ∨ at_ < 0
  · have e : partE l.length at_ n = 1 := by unfold partE; rw [if_pos h1]
    have e2 : partL l at_ n = [] := by unfold partL; rw [e, if_neg (by decide)]
    rw [e, e2]
    exact (part_arg A len c at_ n w h1).mono fun e w' ⟨he, hE⟩ => ⟨none, 0, 0, he, World.ownsRow_nil _ _ _ _, by rw [← hE]; exact Ext.refl _⟩
  · by_cases h2 : (l.length : Int) < at_ + n
    · have e : partE l.length at_ n = 2 := by unfold partE; rw [if_neg h1, if_pos h2]
      have e2 : partL l at_ n = [] := by unfold partL; rw [e, if_neg (by decide)]
      rw [e, e2]
      exact (part_short A len c at_ n w hb.le hb.reach (by omega) (by omega) (by omega)).mono fun e w' ⟨he, hE⟩ => ⟨none, 0, 0, he, World.ownsRow_nil _ _ _ _, by rw [← hE]; exact Ext.refl _⟩
    · have e : partE l.length at_ n = 0 := by unfold partE; rw [if_neg h1, if_neg h2]
      have e2 : partL l at_ n = (l.drop at_.toNat).take n.toNat := by unfold partL; rw [if_pos e]
      rw [e, e2]
      have := part_ok A len c l at_.toNat n.toNat w hb (by omega) (by omega)
      rw [Int.toNat_of_nonneg (by omega), Int.toNat_of_nonneg (by omega)] at this
      exact this.mono fun e w' ⟨A', c', he, ho, hE⟩ => ⟨A', n.toNat, c', he, ho, hE⟩
end Go.Proofs.Ytcdacnhggpfnaaa

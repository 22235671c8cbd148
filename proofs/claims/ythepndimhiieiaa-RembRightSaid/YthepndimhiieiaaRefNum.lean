/- The document's answer for numbers in bytes: Num. -/
import Derived.Test.YthepndimhiieiaaRef01
namespace Go.Proofs.Ythepndimhiieiaa
open Go.RowKit
theorem rnum_ok (A : Option Addr) (len c : Nat) (l : List UInt8) (at_ n : Nat) (w : World) (hb : Bytes w A len c l) (h1 : 1 ≤ n) (h2 : n ≤ 8) (h4 : at_ + n ≤ len) (v : Nat) (hv : (UInt32.ofNat (val ((l.drop at_).take n))).toNat = v) :
    Calls Try.prog 72 #[.slice A len c, .int .i64 at_, .int .i64 n] w fun e w' => e = .returned (.int .u32 v) ∧ w = w' := by
  have S := hide (fun W h => rget_ok A len c l at_ n W h h1 h2 h4)
  obtain ⟨x, hx⟩ : ∃ x, val ((l.drop at_).take n) = x := ⟨_, rfl⟩
  rw [hx] at S hv
  have hw : IntKind.u32.wrap (x : Int) = (v : Int) := by rw [IntKind.wrap_u32, ← hv, UInt32.toNat_ofNat']; omega
  have hw2 : (x : Int) % 4294967296 = (v : Int) := by rw [← hv, UInt32.toNat_ofNat']; omega
  clear hx hv
  go_enter Try.func72, Try.ntmps72
  go_wp2_with fail
  refine (S.out _ hb).mono ?_
  rintro e w1 ⟨rfl, rfl⟩
  go_wp2_with fail
  go_ret
  refine ⟨?_, rfl⟩
  first
    | rfl
    | (congr 2)
end Go.Proofs.Ythepndimhiieiaa

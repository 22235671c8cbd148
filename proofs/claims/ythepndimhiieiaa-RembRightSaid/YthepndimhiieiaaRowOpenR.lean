/- What the arguments of layer 17's rows are: a rate. -/
import Derived.Test.YthepndimhiieiaaRowOpen
import Derived.Test.YthepndimhiieiaaAggOpen
import Derived.Test.YthepndimhiieiaaRembS
namespace Go.Proofs.Ythepndimhiieiaa
open Go.ChangeShapes Go.WideShapes Go.ChangeAt Go.RowKit
section
variable {H : Type} {enc : TypeId × Value → H} {W : World} {base : Nat} {d : DataW H} {p : List MemPlace} {v : Value}
theorem e32_of (z : Int) (h : (Lit.int .u32 z).wf = true) : ∃ x, e32.f x = [.int .u32 z] := by
  have := bounds_u32 h
  refine ⟨UInt32.ofNat z.toNat, ?_⟩
  show [Value.int .u32 ((UInt32.ofNat z.toNat).toNat : Int)] = _
  rw [UInt32.toNat_ofNat']
  congr 2
  omega
set_option maxRecDepth 100000 in
theorem in_rate (hv : Value.okWide Try.prog W .any base 84 v) (h : DataW.Trod enc Try.prog W 0 (fun _ => true) true 84 v d p) :
    ∃ (x : Int) (m : Nat) (l : List UInt32) (A : Option Addr) (n c : Nat), v = .agg #[.int .i64 x, .int .u32 (m : Int), .slice A n c] ∧ m < 4294967296 ∧ -9223372036854775808 ≤ x ∧ x ≤ 9223372036854775807 ∧ Els e32 W A n c l := by
  obtain ⟨l, n, rfl, hl, hf⟩ := open_aggs Try.underlying84 (by kernel_rfl) (by kernel_rfl) hv h
  match l, hl with
  | [v0, v1, v2], _ =>
    obtain ⟨x0, y0, g0, t0⟩ := hf 0 _ rfl
    obtain ⟨x1, y1, g1, t1⟩ := hf 1 _ rfl
    obtain ⟨x2, y2, g2, t2⟩ := hf 2 _ rfl
    simp at g0 g1 g2
    subst g0 g1 g2
    obtain ⟨z3, e3, _, w3⟩ := DataW.trod_int Try.underlying3 t0
    obtain ⟨z5, e5, _, w5⟩ := DataW.trod_int Try.underlying22 t1
    obtain ⟨A, m, c, cs, rfl, hE⟩ := open_els (E := e32) Try.underlying82 Try.underlying22 (by kernel_rfl) rfl e32_of t2
    simp only [List.cons.injEq, and_true] at e3 e5
    subst e3 e5
    have q3 := bounds_i64 w3
    have q5 := bounds_u32 w5
    obtain ⟨k, rfl⟩ := Int.eq_ofNat_of_zero_le q5.1
    exact ⟨z3, k, cs, A, m, c, rfl, by omega, by omega, by omega, hE⟩
end
end Go.Proofs.Ythepndimhiieiaa

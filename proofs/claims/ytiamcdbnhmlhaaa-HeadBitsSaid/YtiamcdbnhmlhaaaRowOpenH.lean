/- What the arguments of layer 5's rows are: a kind, a lemma. -/
import Derived.Test.YtiamcdbnhmlhaaaRowOpen
import Derived.Test.YtiamcdbnhmlhaaaAggOpen
import Derived.Test.YtiamcdbnhmlhaaaHead
namespace Go.Proofs.Ytiamcdbnhmlhaaa
open Go.ChangeShapes Go.WideShapes Go.ChangeAt Go.RowKit
section
variable {H : Type} {enc : TypeId × Value → H} {W : World} {base : Nat} {d : DataW H} {p : List MemPlace} {v : Value}
theorem e32_of (z : Int) (h : (Lit.int .u32 z).wf = true) : ∃ x, e32.f x = [.int .u32 z] := by
  have := bounds_u32 h
  refine ⟨UInt32.ofNat z.toNat, ?_⟩
  show [Value.int .u32 ((UInt32.ofNat z.toNat).toNat : Int)] = _
  rw [UInt32.toNat_ofNat']
  congr 2
  omega
theorem in_head (hv : Value.okWide Try.prog W .any base 54 v) (h : DataW.Trod enc Try.prog W 0 (fun _ => true) true 54 v d p) :
    ∃ (q : Hd) (A : Option Addr) (n c : Nat), v = .agg #[.bool q.pad, .bool q.ext, .bool q.mark, .int .i64 q.typ, .int .u16 (q.seq.toNat : Int), .int .u32 (q.time.toNat : Int), .int .u32 (q.ssrc.toNat : Int), .slice A n c] ∧ Els e32 W A n c q.csrc := by
  obtain ⟨l, n, rfl, hl, hf⟩ := open_aggs Try.underlying54 (by kernel_rfl) (by kernel_rfl) hv h
  match l, hl with
  | [v0, v1, v2, v3, v4, v5, v6, v7], _ =>
    obtain ⟨x0, y0, g0, t0⟩ := hf 0 _ rfl
    obtain ⟨x1, y1, g1, t1⟩ := hf 1 _ rfl
    obtain ⟨x2, y2, g2, t2⟩ := hf 2 _ rfl
    obtain ⟨x3, y3, g3, t3⟩ := hf 3 _ rfl
    obtain ⟨x4, y4, g4, t4⟩ := hf 4 _ rfl
    obtain ⟨x5, y5, g5, t5⟩ := hf 5 _ rfl
    obtain ⟨x6, y6, g6, t6⟩ := hf 6 _ rfl
    obtain ⟨x7, y7, g7, t7⟩ := hf 7 _ rfl
    simp at g0 g1 g2 g3 g4 g5 g6 g7
    subst g0 g1 g2 g3 g4 g5 g6 g7
    obtain ⟨b0, e0, _⟩ := DataW.trod_bool Try.underlying4 t0
    obtain ⟨b1, e1, _⟩ := DataW.trod_bool Try.underlying4 t1
    obtain ⟨b2, e2, _⟩ := DataW.trod_bool Try.underlying4 t2
    obtain ⟨z3, e3, _, w3⟩ := DataW.trod_int Try.underlying3 t3
    obtain ⟨z4, e4, _, w4⟩ := DataW.trod_int Try.underlying41 t4
    obtain ⟨z5, e5, _, w5⟩ := DataW.trod_int Try.underlying51 t5
    obtain ⟨z6, e6, _, w6⟩ := DataW.trod_int Try.underlying51 t6
    obtain ⟨A, m, c, cs, rfl, hE⟩ := open_els (E := e32) Try.underlying52 Try.underlying51 (by kernel_rfl) rfl e32_of t7
    simp only [List.cons.injEq, and_true] at e0 e1 e2 e3 e4 e5 e6
    subst e0 e1 e2 e3 e4 e5 e6
    have q4 := bounds_u16 w4
    have q5 := bounds_u32 w5
    have q6 := bounds_u32 w6
    refine ⟨⟨b0, b1, b2, z3, UInt16.ofNat z4.toNat, UInt32.ofNat z5.toNat, UInt32.ofNat z6.toNat, cs⟩, A, m, c, ?_, hE⟩
    dsimp only
    rw [UInt16.toNat_ofNat', UInt32.toNat_ofNat', UInt32.toNat_ofNat']
    rw [show ((z4.toNat % 2 ^ 16 : Nat) : Int) = z4 by omega, show ((z5.toNat % 2 ^ 32 : Nat) : Int) = z5 by omega, show ((z6.toNat % 2 ^ 32 : Nat) : Int) = z6 by omega]
end
end Go.Proofs.Ytiamcdbnhmlhaaa

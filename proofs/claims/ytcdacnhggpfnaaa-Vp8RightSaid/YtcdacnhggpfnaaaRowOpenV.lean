/- What the arguments of layer 23's rows are: a descriptor. -/
import Derived.Test.YtcdacnhggpfnaaaRowOpen
import Derived.Test.YtcdacnhggpfnaaaAggOpen
import Derived.Test.YtcdacnhggpfnaaaPlainVp8
namespace Go.Proofs.Ytcdacnhggpfnaaa
open Go.ChangeShapes Go.WideShapes Go.ChangeAt Go.RowKit
section
variable {H : Type} {enc : TypeId × Value → H} {W : World} {base : Nat} {d : DataW H} {p : List MemPlace} {v : Value}
set_option maxRecDepth 100000 in
theorem in_vp8 (hv : Value.okWide Try.prog W .any base 45 v) (h : DataW.Trod enc Try.prog W 0 (fun _ => true) true 45 v d p) :
    ∃ (q : V8), v = .agg #[.bool q.alone, .bool q.start, .int .i64 q.part, .bool q.hasPic, .bool q.wide, .int .i64 q.pic, .bool q.hasLevel, .int .i64 q.level, .bool q.hasTid, .bool q.hasKey, .int .i64 q.tid, .bool q.sync, .int .i64 q.key] := by
  obtain ⟨l, n, rfl, hl, hf⟩ := open_aggs Try.underlying45 (by kernel_rfl) (by kernel_rfl) hv h
  match l, hl with
  | [v0, v1, v2, v3, v4, v5, v6, v7, v8, v9, v10, v11, v12], _ =>
    obtain ⟨x0, y0, g0, t0⟩ := hf 0 _ rfl
    obtain ⟨x1, y1, g1, t1⟩ := hf 1 _ rfl
    obtain ⟨x2, y2, g2, t2⟩ := hf 2 _ rfl
    obtain ⟨x3, y3, g3, t3⟩ := hf 3 _ rfl
    obtain ⟨x4, y4, g4, t4⟩ := hf 4 _ rfl
    obtain ⟨x5, y5, g5, t5⟩ := hf 5 _ rfl
    obtain ⟨x6, y6, g6, t6⟩ := hf 6 _ rfl
    obtain ⟨x7, y7, g7, t7⟩ := hf 7 _ rfl
    obtain ⟨x8, y8, g8, t8⟩ := hf 8 _ rfl
    obtain ⟨x9, y9, g9, t9⟩ := hf 9 _ rfl
    obtain ⟨x10, y10, g10, t10⟩ := hf 10 _ rfl
    obtain ⟨x11, y11, g11, t11⟩ := hf 11 _ rfl
    obtain ⟨x12, y12, g12, t12⟩ := hf 12 _ rfl
    simp at g0 g1 g2 g3 g4 g5 g6 g7 g8 g9 g10 g11 g12
    subst g0 g1 g2 g3 g4 g5 g6 g7 g8 g9 g10 g11 g12
    obtain ⟨z0, e0, _⟩ := DataW.trod_bool Try.underlying4 t0
    obtain ⟨z1, e1, _⟩ := DataW.trod_bool Try.underlying4 t1
    obtain ⟨z2, e2, _, _⟩ := DataW.trod_int Try.underlying3 t2
    obtain ⟨z3, e3, _⟩ := DataW.trod_bool Try.underlying4 t3
    obtain ⟨z4, e4, _⟩ := DataW.trod_bool Try.underlying4 t4
    obtain ⟨z5, e5, _, _⟩ := DataW.trod_int Try.underlying3 t5
    obtain ⟨z6, e6, _⟩ := DataW.trod_bool Try.underlying4 t6
    obtain ⟨z7, e7, _, _⟩ := DataW.trod_int Try.underlying3 t7
    obtain ⟨z8, e8, _⟩ := DataW.trod_bool Try.underlying4 t8
    obtain ⟨z9, e9, _⟩ := DataW.trod_bool Try.underlying4 t9
    obtain ⟨z10, e10, _, _⟩ := DataW.trod_int Try.underlying3 t10
    obtain ⟨z11, e11, _⟩ := DataW.trod_bool Try.underlying4 t11
    obtain ⟨z12, e12, _, _⟩ := DataW.trod_int Try.underlying3 t12
    simp only [List.cons.injEq, and_true] at e0 e1 e2 e3 e4 e5 e6 e7 e8 e9 e10 e11 e12
    subst e0 e1 e2 e3 e4 e5 e6 e7 e8 e9 e10 e11 e12
    exact ⟨⟨z0, z1, z2, z3, z4, z5, z6, z7, z8, z9, z10, z11, z12⟩, rfl⟩
end
end Go.Proofs.Ytcdacnhggpfnaaa

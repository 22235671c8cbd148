/-
  Vp8Right is true of every input: whether any descriptor is right, its bytes, which one any bytes begin with, or why none, whether it is canonical, and bytes with other numbers set, is what the document says.
  Conditions: none. The frame was written by a program of mine; the walk is a law of its own.
-/
import Derived.Test.YtcdacnhggpfnaaaRows
import Derived.WalkKit
import Derived.ProofKit
import Derived.OpenShut
import Derived.ShutString
import Derived.ChangeOld
import Derived.Below
import Derived.Test.YtcdacnhggpfnaaaLawVp8R
import Derived.Test.YtcdacnhggpfnaaaRowOpenV
namespace Go.Proofs.Ytcdacnhggpfnaaa.vp8Right
open Go.ChangeShapes Go.WideShapes Go.ChangeAt Go.RowKit
open Go.ChangeMaps (open_string shut_string)
set_option linter.unusedVariables false

theorem own : ownKnob Try.prog.godebug = none := by kernel_rfl
theorem laidOut : laidOutB Try.prog = true := by kernel_rfl

set_option maxHeartbeats 2000000 in
set_option maxRecDepth 100000 in
theorem lifted (os : Os) (started : os.Started) (H : Type) (enc : TypeId × Value → H) :
    ReturnsInHanded {} Try.checked os 5 .any (Rows.vp8RightSpec.pre6 enc Try.prog Try.f5 Rows.vp8RightRow.domain false) (Rows.vp8RightSpec.post enc Try.prog Try.f5 false true false false) := by
  refine returnsInHanded_of_change (C := Try.checked) own started (by kernel_rfl) Try.func5
    (ChangeSpec.witness6 (enc := enc) (C := Try.checked) false ⟨#[], #[.agg #[.bool false, .bool false, .int .i64 0, .bool false, .bool false, .int .i64 0, .bool false, .int .i64 0, .bool false, .bool false, .int .i64 0, .bool false, .int .i64 0], .slice none 0 0, .int .i64 0, .int .i64 0, .int .i64 0], []⟩ 8 (by kernel_rfl) (by kernel_rfl) (by kernel_rfl) (by kernel_rfl)) ?_
  intro W base args ds gs before hval0 hW hcnd _
  have hval : ∀ (j : Nat) t v, Try.f5.params[j]? = some t → args[j]? = some v → Value.okWide Try.prog W .any base t v := hval0
  have hW' := hW
  obtain ⟨p, q, hA0, hV, rfl, hfz, hnd⟩ := hW
  have hA : DataW.TrodAll enc Try.prog W 0 (fun _ => true) true Try.f5.params.toList args.toList ds p := hA0
  rw [Try.params5] at hA hval
  obtain ⟨v0, vs0, d0, ds0, p0, q0, hargs, rfl, rfl, h0, r0⟩ := trodAll_cons hA
  obtain ⟨v1, vs1, d1, ds1, p1, q1, rfl, rfl, rfl, h1, r1⟩ := trodAll_cons r0
  obtain ⟨v2, vs2, d2, ds2, p2, q2, rfl, rfl, rfl, h2, r2⟩ := trodAll_cons r1
  obtain ⟨v3, vs3, d3, ds3, p3, q3, rfl, rfl, rfl, h3, r3⟩ := trodAll_cons r2
  obtain ⟨v4, vs4, d4, ds4, p4, q4, rfl, rfl, rfl, h4, r4⟩ := trodAll_cons r3
  obtain ⟨rfl, rfl, rfl⟩ := trodAll_nil r4
  obtain rfl : args = #[v0, v1, v2, v3, v4] := by cases args; simp_all
  obtain ⟨rfl, rfl⟩ := trodVars_none hV
  have x0 := h0
  have lt0 : ∀ x ∈ p0, x.block < W.heap.size := by obtain ⟨m, hm⟩ := x0; exact DataW.trod_lt m _ _ _ hm
  have ok0 := hval 0 45 v0 rfl rfl
  have x1 := h1
  have lt1 : ∀ x ∈ p1, x.block < W.heap.size := by obtain ⟨m, hm⟩ := x1; exact DataW.trod_lt m _ _ _ hm
  have ok1 := hval 1 22 v1 rfl rfl
  have x2 := h2
  have lt2 : ∀ x ∈ p2, x.block < W.heap.size := by obtain ⟨m, hm⟩ := x2; exact DataW.trod_lt m _ _ _ hm
  have ok2 := hval 2 3 v2 rfl rfl
  have x3 := h3
  have lt3 : ∀ x ∈ p3, x.block < W.heap.size := by obtain ⟨m, hm⟩ := x3; exact DataW.trod_lt m _ _ _ hm
  have ok3 := hval 3 3 v3 rfl rfl
  have x4 := h4
  have lt4 : ∀ x ∈ p4, x.block < W.heap.size := by obtain ⟨m, hm⟩ := x4; exact DataW.trod_lt m _ _ _ hm
  have ok4 := hval 4 3 v4 rfl rfl
  clear hval hA0 hval0
  obtain ⟨dv0, rfl⟩ := in_vp8 (ok0) h0
  obtain ⟨A1, n1, k1, l1, rfl, b1⟩ := in_bytes (ok1) h1
  obtain ⟨i2, rfl, w2⟩ := in_int Try.underlying3 (ok2) h2
  obtain ⟨i3, rfl, w3⟩ := in_int Try.underlying3 (ok3) h3
  obtain ⟨i4, rfl, w4⟩ := in_int Try.underlying3 (ok4) h4
  have hgo : Calls Try.prog 5 #[.agg #[.bool dv0.alone, .bool dv0.start, .int .i64 dv0.part, .bool dv0.hasPic, .bool dv0.wide, .int .i64 dv0.pic, .bool dv0.hasLevel, .int .i64 dv0.level, .bool dv0.hasTid, .bool dv0.hasKey, .int .i64 dv0.tid, .bool dv0.sync, .int .i64 dv0.key], .slice A1 n1 k1, .int .i64 i2, .int .i64 i3, .int .i64 i4] W fun e w' => e = .returned (.bool true) ∧ Below W.heap.size W w' := by
    exact law_vp8right dv0 A1 n1 k1 l1 i2 i3 i4 W b1
  refine hgo.mono fun e W' ⟨he, bel⟩ => ?_
  subst he
  exact ⟨_, rfl, _, _, _, [], _, [], hW', trodAll_mk1 (shut_bool Try.underlying4 _), (trodAll_cons_mk (Below.trod laidOut (by kernel_rfl) (of_decide_eq_true (by kernel_rfl)) x0 bel lt0) (trodAll_cons_mk (Below.trod laidOut (by kernel_rfl) (of_decide_eq_true (by kernel_rfl)) x1 bel lt1) (trodAll_cons_mk (Below.trod laidOut (by kernel_rfl) (of_decide_eq_true (by kernel_rfl)) x2 bel lt2) (trodAll_cons_mk (Below.trod laidOut (by kernel_rfl) (of_decide_eq_true (by kernel_rfl)) x3 bel lt3) (trodAll_cons_mk (Below.trod laidOut (by kernel_rfl) (of_decide_eq_true (by kernel_rfl)) x4 bel lt4) trodAll_mk0))))), rfl, bel.frame _, fun h => by cases h⟩

theorem over : Rows.vp8RightRow.holds Try.pinned (OpenSpec.ofChange Rows.vp8RightSpec) :=
  OpenClaim.holds_of_wide 5 Try.f5 rfl rfl rfl rfl rfl rfl rfl ⟨rfl, rfl, rfl, rfl, rfl⟩ rfl rfl rfl rfl rfl (by kernel_rfl) Try.func5 (by kernel_rfl)
    (of_decide_eq_true (by kernel_rfl)) (by unfold Func.isWrapper; first | (rw [if_pos (by decide +kernel)]; kernel_rfl) | (rw [if_neg (by decide +kernel)]; exact ⟨rfl, rfl⟩))
    (fun os started H enc _ => lifted os started H enc)

theorem proved : Rows.Vp8RightSaid := over
#print axioms proved
end Go.Proofs.Ytcdacnhggpfnaaa.vp8Right

/-
  RembRight is true of every input: whether any rate is right, its body and number, which rate any body is, or why none, whether it is canonical, and any number as a rate, is what the document says.
  Conditions: none. The frame was written by a program of mine; the walk is a law of its own.
-/
import Derived.Test.YthepndimhiieiaaRows
import Derived.WalkKit
import Derived.ProofKit
import Derived.OpenShut
import Derived.ShutString
import Derived.ChangeOld
import Derived.Below
import Derived.Test.YthepndimhiieiaaLawRembR
import Derived.Test.YthepndimhiieiaaRowOpenR
namespace Go.Proofs.Ythepndimhiieiaa.rembRight
open Go.ChangeShapes Go.WideShapes Go.ChangeAt Go.RowKit
open Go.ChangeMaps (open_string shut_string)
set_option linter.unusedVariables false

theorem own : ownKnob Try.prog.godebug = none := by kernel_rfl
theorem laidOut : laidOutB Try.prog = true := by kernel_rfl

set_option maxHeartbeats 2000000 in
set_option maxRecDepth 100000 in
theorem lifted (os : Os) (started : os.Started) (H : Type) (enc : TypeId × Value → H) :
    ReturnsInHanded {} Try.checked os 12 .any (Rows.rembRightSpec.pre6 enc Try.prog Try.f12 Rows.rembRightRow.domain false) (Rows.rembRightSpec.post enc Try.prog Try.f12 false true false false) := by
  refine returnsInHanded_of_change (C := Try.checked) own started (by kernel_rfl) Try.func12
    (ChangeSpec.witness6 (enc := enc) (C := Try.checked) false ⟨#[], #[.agg #[.int .i64 0, .int .u32 0, .slice none 0 0], .slice none 0 0, .int .u64 0], []⟩ 8 (by kernel_rfl) (by kernel_rfl) (by kernel_rfl) (by kernel_rfl)) ?_
  intro W base args ds gs before hval0 hW hcnd _
  have hval : ∀ (j : Nat) t v, Try.f12.params[j]? = some t → args[j]? = some v → Value.okWide Try.prog W .any base t v := hval0
  have hW' := hW
  obtain ⟨p, q, hA0, hV, rfl, hfz, hnd⟩ := hW
  have hA : DataW.TrodAll enc Try.prog W 0 (fun _ => true) true Try.f12.params.toList args.toList ds p := hA0
  rw [Try.params12] at hA hval
  obtain ⟨v0, vs0, d0, ds0, p0, q0, hargs, rfl, rfl, h0, r0⟩ := trodAll_cons hA
  obtain ⟨v1, vs1, d1, ds1, p1, q1, rfl, rfl, rfl, h1, r1⟩ := trodAll_cons r0
  obtain ⟨v2, vs2, d2, ds2, p2, q2, rfl, rfl, rfl, h2, r2⟩ := trodAll_cons r1
  obtain ⟨rfl, rfl, rfl⟩ := trodAll_nil r2
  obtain rfl : args = #[v0, v1, v2] := by cases args; simp_all
  obtain ⟨rfl, rfl⟩ := trodVars_none hV
  have x0 := h0
  have lt0 : ∀ x ∈ p0, x.block < W.heap.size := by obtain ⟨m, hm⟩ := x0; exact DataW.trod_lt m _ _ _ hm
  have ok0 := hval 0 84 v0 rfl rfl
  have x1 := h1
  have lt1 : ∀ x ∈ p1, x.block < W.heap.size := by obtain ⟨m, hm⟩ := x1; exact DataW.trod_lt m _ _ _ hm
  have ok1 := hval 1 25 v1 rfl rfl
  have x2 := h2
  have lt2 : ∀ x ∈ p2, x.block < W.heap.size := by obtain ⟨m, hm⟩ := x2; exact DataW.trod_lt m _ _ _ hm
  have ok2 := hval 2 42 v2 rfl rfl
  clear hval hA0 hval0
  obtain ⟨ex0, m0, l0, A0, n0, k0, rfl, bm0, bx0, by0, b0⟩ := in_rate (ok0) h0
  obtain ⟨A1, n1, k1, l1, rfl, b1⟩ := in_bytes (ok1) h1
  obtain ⟨i2, rfl, w2⟩ := in_int Try.underlying42 (ok2) h2
  have hgo : Calls Try.prog 12 #[.agg #[.int .i64 ex0, .int .u32 (m0 : Int), .slice A0 n0 k0], .slice A1 n1 k1, .int .u64 i2] W fun e w' => e = .returned (.bool true) ∧ Below W.heap.size W w' := by
    have q2 := bounds_u64 w2
    obtain ⟨v, rfl⟩ := Int.eq_ofNat_of_zero_le q2.1
    exact law_rembright ex0 m0 l0 A0 n0 k0 A1 n1 k1 l1 v (by omega) W b0 b1
  refine hgo.mono fun e W' ⟨he, bel⟩ => ?_
  subst he
  exact ⟨_, rfl, _, _, _, [], _, [], hW', trodAll_mk1 (shut_bool Try.underlying4 _), (trodAll_cons_mk (Below.trod laidOut (by kernel_rfl) (of_decide_eq_true (by kernel_rfl)) x0 bel lt0) (trodAll_cons_mk (Below.trod laidOut (by kernel_rfl) (of_decide_eq_true (by kernel_rfl)) x1 bel lt1) (trodAll_cons_mk (Below.trod laidOut (by kernel_rfl) (of_decide_eq_true (by kernel_rfl)) x2 bel lt2) trodAll_mk0))), rfl, bel.frame _, fun h => by cases h⟩

theorem over : Rows.rembRightRow.holds Try.pinned (OpenSpec.ofChange Rows.rembRightSpec) :=
  OpenClaim.holds_of_wide 12 Try.f12 rfl rfl rfl rfl rfl rfl rfl ⟨rfl, rfl, rfl, rfl, rfl⟩ rfl rfl rfl rfl rfl (by kernel_rfl) Try.func12 (by kernel_rfl)
    (of_decide_eq_true (by kernel_rfl)) (by unfold Func.isWrapper; first | (rw [if_pos (by decide +kernel)]; kernel_rfl) | (rw [if_neg (by decide +kernel)]; exact ⟨rfl, rfl⟩))
    (fun os started H enc _ => lifted os started H enc)

theorem proved : Rows.RembRightSaid := over
#print axioms proved
end Go.Proofs.Ythepndimhiieiaa.rembRight

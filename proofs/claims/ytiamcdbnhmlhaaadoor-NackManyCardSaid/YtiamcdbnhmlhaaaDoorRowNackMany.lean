/-
  NackMany is true of every input: as many pairs as have room are written, and read; one more is not.
  Conditions: none. The frame was written by a program of mine; the walk is a law of its own.
-/
import Derived.Test.YtiamcdbnhmlhaaaDoorRows
import Derived.WalkKit
import Derived.ProofKit
import Derived.OpenShut
import Derived.ShutString
import Derived.ChangeOld
import Derived.Below
import Derived.Test.YtiamcdbnhmlhaaaDoorLawNackM
import Derived.Test.YtiamcdbnhmlhaaaDoorRowOpenN
import Derived.Test.YtiamcdbnhmlhaaaDoorNackLaid
import Derived.Test.YtiamcdbnhmlhaaaDoorTie
import Derived.Test.YtiamcdbnhmlhaaaDoorCards
import Derived.SevenTiedAt
namespace Go.Proofs.YtiamcdbnhmlhaaaDoor.nackMany
open Go.ChangeShapes Go.WideShapes Go.ChangeAt Go.RowKit
open Go.ChangeMaps (open_string shut_string)
set_option linter.unusedVariables false

theorem own : ownKnob Tryd.prog.godebug = none := by kernel_rfl
theorem laidOut : laidOutB Tryd.prog = true := by kernel_rfl

set_option maxRecDepth 100000 in
theorem lifted (os : Os) (started : os.Started) (H : Type) (enc : TypeId × Value → H) :
    ReturnsInHanded {} Tryd.checked os 4 .any (fun w args => (Rows.nackManySpec.pre enc Tryd.prog Tryd.f4 [] false w args ∧ laidMetH Tryd.prog laidT w) ∧ sizedMet enc Tryd.prog Tryd.f4 (OpenSpec.ofChange Rows.nackManySpec) false w args)
      (Rows.nackManySpec.post enc Tryd.prog Tryd.f4 false true false false) := by
  refine returnsInHanded_of_change_and (C := Tryd.checked) (X := fun w _ => laidMetH Tryd.prog laidT w) (fun _ _ _ hh h => h.of_heap hh) own started (by kernel_rfl) Tryd.func4
    (ChangeSpec.witness_shaped (enc := enc) (C := Tryd.checked) (os := os) (X := fun w _ => laidMetH Tryd.prog laidT w) false (World.doorLaid Tryd.prog 400 os) #[.agg #[.int .u16 0, .int .u16 0], .int .u16 0] 8 rfl (World.shaped_of_RefB (by kernel_rfl) (by kernel_rfl)) (by kernel_rfl) (by kernel_rfl) (by kernel_rfl) (door_met os _)) ?_
  intro W base args ds gs before hval0 hW hcnd _ hL _
  have hval : ∀ (j : Nat) t v, Tryd.f4.params[j]? = some t → args[j]? = some v → Value.okWide Tryd.prog W .any base t v := hval0
  have hW' := hW
  obtain ⟨p, q, hA0, hV, rfl, hfz, hnd⟩ := hW
  have hA : DataW.TrodAll enc Tryd.prog W 0 (fun _ => true) true Tryd.f4.params.toList args.toList ds p := hA0
  rw [Tryd.params4] at hA hval
  obtain ⟨v0, vs0, d0, ds0, p0, q0, hargs, rfl, rfl, h0, r0⟩ := trodAll_cons hA
  obtain ⟨v1, vs1, d1, ds1, p1, q1, rfl, rfl, rfl, h1, r1⟩ := trodAll_cons r0
  obtain ⟨rfl, rfl, rfl⟩ := trodAll_nil r1
  obtain rfl : args = #[v0, v1] := by cases args; simp_all
  obtain ⟨rfl, rfl⟩ := trodVars_none hV
  have x0 := h0
  have lt0 : ∀ x ∈ p0, x.block < W.heap.size := by obtain ⟨m, hm⟩ := x0; exact DataW.trod_lt m _ _ _ hm
  have ok0 := hval 0 41 v0 rfl rfl
  have x1 := h1
  have lt1 : ∀ x ∈ p1, x.block < W.heap.size := by obtain ⟨m, hm⟩ := x1; exact DataW.trod_lt m _ _ _ hm
  have ok1 := hval 1 39 v1 rfl rfl
  clear hval hA0 hval0
  obtain ⟨b0, rfl⟩ := in_pair (ok0) h0
  obtain ⟨i1, rfl, w1⟩ := in_int Tryd.underlying39 (ok1) h1
  have hgo : Calls Tryd.prog 4 #[.agg #[.int .u16 (b0.1.toNat : Int), .int .u16 (b0.2.toNat : Int)], .int .u16 i1] W fun e w' => e = .returned (.bool true) ∧ Below W.heap.size W w' := by
    have q1 := bounds_u16 w1
    obtain ⟨less, rfl⟩ := Int.eq_ofNat_of_zero_le q1.1
    exact law_nackmany b0 less (by omega) W (tab_of_laid hL)
  refine hgo.mono fun e W' ⟨he, bel⟩ => ?_
  subst he
  exact ⟨_, rfl, _, _, _, [], _, [], hW', trodAll_mk1 (shut_bool Tryd.underlying4 _), (trodAll_cons_mk (Below.trod laidOut (by kernel_rfl) (of_decide_eq_true (by kernel_rfl)) x0 bel lt0) (trodAll_cons_mk (Below.trod laidOut (by kernel_rfl) (of_decide_eq_true (by kernel_rfl)) x1 bel lt1) trodAll_mk0)), rfl, bel.frame _, fun h => by cases h⟩

theorem over : Rows.nackManyRow.holds Tryd.pinned (OpenSpec.ofChange Rows.nackManySpec) :=
  OpenClaim.holds_of_wide 4 Tryd.f4 rfl rfl rfl rfl rfl rfl rfl ⟨rfl, rfl, rfl, rfl, rfl⟩ rfl rfl rfl rfl rfl (by kernel_rfl) Tryd.func4 (by kernel_rfl)
    (of_decide_eq_true (by kernel_rfl)) (by unfold Func.isWrapper; first | (rw [if_pos (by decide +kernel)]; kernel_rfl) | (rw [if_neg (by decide +kernel)]; exact ⟨rfl, rfl⟩))
    (fun os started H enc _ => lifted os started H enc)

theorem bare : Rows.NackManySaid := over
theorem proved : Rows.NackManyCardSaid :=
  Claim7.holds_tied_plain_at .later [] [.data] true (true, "046de7403189887092d11bdc89c3bcbd724030bd22401ec967d65eba670ce720") false
    bare (fun _ h => by cases h) (by kernel_rfl) (fun _ h => by cases h) nackMany_row_tie rfl ⟨rfl, rfl⟩ (by kernel_rfl) rfl
    (fun f fn hf hfn => by
      obtain rfl : f = 4 := Option.some.inj ((show Tryd.prog.funcNamed "crossbar/crossbarlaw15.NackMany" = some 4 by kernel_rfl).symm.trans hf) |>.symm
      obtain rfl : fn = Tryd.f4 := (Option.some.inj (Tryd.func4.symm.trans hfn)).symm
      exact ⟨by kernel_rfl, fun j t ht => by
        rw [Tryd.params4] at ht
        have hm : t ∈ [41, 39] := by
          have := Array.mem_of_getElem? ht
          simp at this ⊢
          omega
        have hall : ([41, 39].all fun u => !Tryd.prog.wantsStandIn u) = true := by kernel_rfl
        exact (show Tryd.prog.wantsStandIn t = false by simpa using List.all_eq_true.1 hall t hm)⟩)
    (by kernel_rfl)
#print axioms proved
end Go.Proofs.YtiamcdbnhmlhaaaDoor.nackMany

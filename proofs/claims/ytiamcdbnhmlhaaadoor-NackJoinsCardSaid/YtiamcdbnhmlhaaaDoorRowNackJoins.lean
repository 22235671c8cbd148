/-
  NackJoins is true of every input: pairs one behind the other tell what each tells; numbers that are too far apart, or go back, are in unlike pairs.
  Conditions: none. The frame was written by a program of mine; the walk is a law of its own.
-/
import Derived.Test.YtiamcdbnhmlhaaaDoorRows
import Derived.WalkKit
import Derived.ProofKit
import Derived.OpenShut
import Derived.ShutString
import Derived.ChangeOld
import Derived.Below
import Derived.Test.YtiamcdbnhmlhaaaDoorLawNackJ
import Derived.Test.YtiamcdbnhmlhaaaDoorRowOpenN
import Derived.Test.YtiamcdbnhmlhaaaDoorNackLaid
import Derived.Test.YtiamcdbnhmlhaaaDoorTie
import Derived.Test.YtiamcdbnhmlhaaaDoorCards
import Derived.SevenTiedAt
namespace Go.Proofs.YtiamcdbnhmlhaaaDoor.nackJoins
open Go.ChangeShapes Go.WideShapes Go.ChangeAt Go.RowKit
open Go.ChangeMaps (open_string shut_string)
set_option linter.unusedVariables false

theorem own : ownKnob Tryd.prog.godebug = none := by kernel_rfl
theorem laidOut : laidOutB Tryd.prog = true := by kernel_rfl

set_option maxRecDepth 100000 in
theorem lifted (os : Os) (started : os.Started) (H : Type) (enc : TypeId × Value → H) :
    ReturnsInHanded {} Tryd.checked os 6 .any (fun w args => (Rows.nackJoinsSpec.pre enc Tryd.prog Tryd.f6 [] false w args ∧ laidMetH Tryd.prog laidT w) ∧ sizedMet enc Tryd.prog Tryd.f6 (OpenSpec.ofChange Rows.nackJoinsSpec) false w args)
      (Rows.nackJoinsSpec.post enc Tryd.prog Tryd.f6 false true false false) := by
  refine returnsInHanded_of_change_and (C := Tryd.checked) (X := fun w _ => laidMetH Tryd.prog laidT w) (fun _ _ _ hh h => h.of_heap hh) own started (by kernel_rfl) Tryd.func6
    (ChangeSpec.witness_shaped (enc := enc) (C := Tryd.checked) (os := os) (X := fun w _ => laidMetH Tryd.prog laidT w) false (World.doorLaid Tryd.prog 400 os) #[.slice none 0 0, .slice none 0 0, .int .u16 0, .int .u16 0] 8 rfl (World.shaped_of_RefB (by kernel_rfl) (by kernel_rfl)) (by kernel_rfl) (by kernel_rfl) (by kernel_rfl) (door_met os _)) ?_
  intro W base args ds gs before hval0 hW hcnd _ hL _
  have hval : ∀ (j : Nat) t v, Tryd.f6.params[j]? = some t → args[j]? = some v → Value.okWide Tryd.prog W .any base t v := hval0
  have hW' := hW
  obtain ⟨p, q, hA0, hV, rfl, hfz, hnd⟩ := hW
  have hA : DataW.TrodAll enc Tryd.prog W 0 (fun _ => true) true Tryd.f6.params.toList args.toList ds p := hA0
  rw [Tryd.params6] at hA hval
  obtain ⟨v0, vs0, d0, ds0, p0, q0, hargs, rfl, rfl, h0, r0⟩ := trodAll_cons hA
  obtain ⟨v1, vs1, d1, ds1, p1, q1, rfl, rfl, rfl, h1, r1⟩ := trodAll_cons r0
  obtain ⟨v2, vs2, d2, ds2, p2, q2, rfl, rfl, rfl, h2, r2⟩ := trodAll_cons r1
  obtain ⟨v3, vs3, d3, ds3, p3, q3, rfl, rfl, rfl, h3, r3⟩ := trodAll_cons r2
  obtain ⟨rfl, rfl, rfl⟩ := trodAll_nil r3
  obtain rfl : args = #[v0, v1, v2, v3] := by cases args; simp_all
  obtain ⟨rfl, rfl⟩ := trodVars_none hV
  have x0 := h0
  have lt0 : ∀ x ∈ p0, x.block < W.heap.size := by obtain ⟨m, hm⟩ := x0; exact DataW.trod_lt m _ _ _ hm
  have ok0 := hval 0 22 v0 rfl rfl
  have x1 := h1
  have lt1 : ∀ x ∈ p1, x.block < W.heap.size := by obtain ⟨m, hm⟩ := x1; exact DataW.trod_lt m _ _ _ hm
  have ok1 := hval 1 22 v1 rfl rfl
  have x2 := h2
  have lt2 : ∀ x ∈ p2, x.block < W.heap.size := by obtain ⟨m, hm⟩ := x2; exact DataW.trod_lt m _ _ _ hm
  have ok2 := hval 2 39 v2 rfl rfl
  have x3 := h3
  have lt3 : ∀ x ∈ p3, x.block < W.heap.size := by obtain ⟨m, hm⟩ := x3; exact DataW.trod_lt m _ _ _ hm
  have ok3 := hval 3 39 v3 rfl rfl
  clear hval hA0 hval0
  obtain ⟨A0, n0, k0, l0, rfl, b0⟩ := in_pairs (ok0) h0
  obtain ⟨A1, n1, k1, l1, rfl, b1⟩ := in_pairs (ok1) h1
  obtain ⟨i2, rfl, w2⟩ := in_int Tryd.underlying39 (ok2) h2
  obtain ⟨i3, rfl, w3⟩ := in_int Tryd.underlying39 (ok3) h3
  have hgo : Calls Tryd.prog 6 #[.slice A0 n0 k0, .slice A1 n1 k1, .int .u16 i2, .int .u16 i3] W fun e w' => e = .returned (.bool true) ∧ Below W.heap.size W w' := by
    have q2 := bounds_u16 w2
    have q3 := bounds_u16 w3
    have e2 : i2 = ((UInt16.ofNat i2.toNat).toNat : Int) := by rw [UInt16.toNat_ofNat']; omega
    have e3 : i3 = ((UInt16.ofNat i3.toNat).toNat : Int) := by rw [UInt16.toNat_ofNat']; omega
    rw [e2, e3]
    exact law_nackjoins A0 n0 k0 l0 A1 n1 k1 l1 (UInt16.ofNat i2.toNat) (UInt16.ofNat i3.toNat) W (tab_of_laid hL) b0 b1
  refine hgo.mono fun e W' ⟨he, bel⟩ => ?_
  subst he
  exact ⟨_, rfl, _, _, _, [], _, [], hW', trodAll_mk1 (shut_bool Tryd.underlying4 _), (trodAll_cons_mk (Below.trod laidOut (by kernel_rfl) (of_decide_eq_true (by kernel_rfl)) x0 bel lt0) (trodAll_cons_mk (Below.trod laidOut (by kernel_rfl) (of_decide_eq_true (by kernel_rfl)) x1 bel lt1) (trodAll_cons_mk (Below.trod laidOut (by kernel_rfl) (of_decide_eq_true (by kernel_rfl)) x2 bel lt2) (trodAll_cons_mk (Below.trod laidOut (by kernel_rfl) (of_decide_eq_true (by kernel_rfl)) x3 bel lt3) trodAll_mk0)))), rfl, bel.frame _, fun h => by cases h⟩

theorem over : Rows.nackJoinsRow.holds Tryd.pinned (OpenSpec.ofChange Rows.nackJoinsSpec) :=
  OpenClaim.holds_of_wide 6 Tryd.f6 rfl rfl rfl rfl rfl rfl rfl ⟨rfl, rfl, rfl, rfl, rfl⟩ rfl rfl rfl rfl rfl (by kernel_rfl) Tryd.func6 (by kernel_rfl)
    (of_decide_eq_true (by kernel_rfl)) (by unfold Func.isWrapper; first | (rw [if_pos (by decide +kernel)]; kernel_rfl) | (rw [if_neg (by decide +kernel)]; exact ⟨rfl, rfl⟩))
    (fun os started H enc _ => lifted os started H enc)

theorem bare : Rows.NackJoinsSaid := over
theorem proved : Rows.NackJoinsCardSaid :=
  Claim7.holds_tied_plain_at .later [] [.data] true (true, "046de7403189887092d11bdc89c3bcbd724030bd22401ec967d65eba670ce720") false
    bare (fun _ h => by cases h) (by kernel_rfl) (fun _ h => by cases h) nackJoins_row_tie rfl ⟨rfl, rfl⟩ (by kernel_rfl) rfl
    (fun f fn hf hfn => by
      obtain rfl : f = 6 := Option.some.inj ((show Tryd.prog.funcNamed "crossbar/crossbarlaw15.NackJoins" = some 6 by kernel_rfl).symm.trans hf) |>.symm
      obtain rfl : fn = Tryd.f6 := (Option.some.inj (Tryd.func6.symm.trans hfn)).symm
      exact ⟨by kernel_rfl, fun j t ht => by
        rw [Tryd.params6] at ht
        have hm : t ∈ [22, 39] := by
          have := Array.mem_of_getElem? ht
          simp at this ⊢
          omega
        have hall : ([22, 39].all fun u => !Tryd.prog.wantsStandIn u) = true := by kernel_rfl
        exact (show Tryd.prog.wantsStandIn t = false by simpa using List.all_eq_true.1 hall t hm)⟩)
    (by kernel_rfl)
#print axioms proved
end Go.Proofs.YtiamcdbnhmlhaaaDoor.nackJoins

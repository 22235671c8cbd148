/- Layer 11 in plain Lean: a train split. No program in sight. -/
import Derived.Test.YthepndimhiieiaaPlainTrain
namespace Go.Proofs.Ythepndimhiieiaa
def spE : Nat → List UInt8 → Int
  | 0, _ => 0
  | f + 1, b => if b.length = 0 then 0 else if cE b ≠ 0 then cE b else if (cP b = true ∧ (b.drop (cS b)).length ≠ 0) ∨ trE (cP b) ((b.take (cS b)).drop 4) ≠ 0 then 5 else spE f (b.drop (cS b))
def spL : Nat → List UInt8 → List (List UInt8)
  | 0, _ => []
  | f + 1, b => if b.length = 0 then [] else b.take (cS b) :: spL f (b.drop (cS b))
def sE (b : List UInt8) : Int := if b.length = 0 then 2 else spE b.length b
def sL (b : List UInt8) : List (List UInt8) := if sE b = 0 then spL b.length b else []
theorem sp_nil (f : Nat) : spE f [] = 0 ∧ spL f [] = [] := by cases f <;> simp [spE, spL]
theorem cS_ge {b : List UInt8} (h : cE b = 0) : 4 ≤ cS b ∧ cS b ≤ b.length ∧ cS b ≤ 262144 ∧ cS b % 4 = 0 := by
  obtain ⟨h1, h2, _⟩ := cBack h
  unfold cRight at h1
  have := of_decide_eq_true h1
  exact ⟨by omega, h2, by omega, by omega⟩
end Go.Proofs.Ythepndimhiieiaa

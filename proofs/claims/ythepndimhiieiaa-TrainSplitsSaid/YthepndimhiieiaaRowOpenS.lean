/- What the arguments of layer 11's rows are: lists of slices of bytes too. -/
import Derived.Test.YthepndimhiieiaaRowOpen
import Derived.Test.YthepndimhiieiaaAppend
import Derived.Deep.Slices
namespace Go.Proofs.Ythepndimhiieiaa
open Go.ChangeShapes Go.WideShapes Go.ChangeAt Go.RowKit
section
variable {H : Type} {enc : TypeId × Value → H} {W : World} {base : Nat} {d : DataW H} {p : List MemPlace} {v : Value}
set_option maxRecDepth 100000 in
theorem cell_bytes {n : Nat} {c : Value} {y : DataW H × List MemPlace} (h : DataW.trod enc Try.prog W 0 (fun _ => true) true n 25 [c] = some y) : ∃ A m k l, c = .slice A m k ∧ Bytes W A m k l := by
  rcases open_ints Try.underlying25 Try.underlying5 (by kernel_rfl) h with ⟨hcs, _⟩ | ⟨x, l, c, zs, hcs, _, hl, hm, hz, _, hcell, hwz⟩
  · injection hcs with hcs _
    subst hcs
    exact ⟨_, _, _, [], rfl, Bytes.nil W⟩
  · injection hcs with hcs _
    subst hcs
    obtain ⟨l, hb⟩ := Bytes.of_row (.inr ⟨_, rfl, hl, hm, by simpa using hz, hcell, hwz⟩)
    exact ⟨_, _, _, l, rfl, hb⟩
theorem Slices.of_cells {w : World} {a : Addr} {n c : Nat} (hn : n ≤ c) (hc : c ≤ maxLen) (h : ∀ i, i < n → ∃ A m k l, w.cell? (a.add i) = some (.slice A m k) ∧ Bytes w A m k l) : ∃ ls, Slices w (some a) n c ls := by
  let f : Fin n → List UInt8 := fun i => Classical.choose (Classical.choose_spec (Classical.choose_spec (Classical.choose_spec (h i.1 i.2))))
  have hf : ∀ i : Fin n, ∃ A m k, w.cell? (a.add i.1) = some (.slice A m k) ∧ Bytes w A m k (f i) := fun i => ⟨_, _, _, Classical.choose_spec (Classical.choose_spec (Classical.choose_spec (Classical.choose_spec (h i.1 i.2))))⟩
  have hl : (List.ofFn f).length = n := List.length_ofFn
  refine ⟨List.ofFn f, hl, hn, by unfold maxLen at hc; omega, fun i hi => ?_⟩
  obtain ⟨A, m, k, h1, h2⟩ := hf ⟨i, by rw [← hl]; exact hi⟩
  have hlt := World.block_lt_of_cell? w _ h1
  rw [block_of_add] at hlt
  exact ⟨a, A, m, k, rfl, hlt, h1, by simpa using h2⟩
set_option maxRecDepth 100000 in
theorem in_slices (hv : Value.okWide Try.prog W .any base 72 v) (h : DataW.Trod enc Try.prog W 0 (fun _ => true) true 72 v d p) : ∃ A n c l, v = .slice A n c ∧ Slices W A n c l := by
  obtain ⟨a0, len0, cap0, rfl⟩ := okWide_slice Try.underlying72 hv
  obtain ⟨fuel, hf⟩ := h
  rcases Go.Deep.open_slice1 Try.underlying72 (by kernel_rfl) hf with ⟨hcs, _⟩ | ⟨a, len, cap, m, n, V, D, Pl, hcs, _, hl, hm, hmm, _, hi⟩
  · simp [Value.cells] at hcs
    obtain ⟨rfl, rfl, rfl⟩ := hcs
    exact ⟨_, _, _, [], rfl, ⟨rfl, Nat.le_refl _, by omega, fun i hi => absurd hi (by simp)⟩⟩
  · simp [Value.cells] at hcs
    obtain ⟨rfl, rfl, rfl⟩ := hcs
    rw [if_pos rfl] at hmm
    subst hmm
    obtain ⟨ls, hS⟩ := Slices.of_cells hl hm fun i hin => by
      obtain ⟨h1, h2⟩ := hi i (by omega)
      obtain ⟨A, k, c, l, e, hB⟩ := cell_bytes h2
      exact ⟨A, k, c, l, by rw [h1, e], hB⟩
    exact ⟨_, _, _, ls, rfl, hS⟩
end
end Go.Proofs.Ythepndimhiieiaa

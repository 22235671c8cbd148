/- Elements that came in, as a list. No program in sight. -/
import Derived.Test.YtcdacnhggpfnaaaEls
namespace Go.Proofs.Ytcdacnhggpfnaaa
open Go.RowKit
theorem Els.of_cells {α : Type} {E : Enc α} {w : World} {a : Addr} {n c : Nat} (hn : n ≤ c) (hc : c ≤ maxLen) (h : ∀ i, i < n → ∃ x, ∀ j u, (E.f x)[j]? = some u → w.cell? (a.add (i * E.size + j)) = some u) : ∃ l, Els E w (some a) n c l := by
  let f : Fin n → α := fun i => Classical.choose (h i.1 i.2)
  have hf : ∀ i : Fin n, ∀ j u, (E.f (f i))[j]? = some u → w.cell? (a.add (i.1 * E.size + j)) = some u := fun i => Classical.choose_spec (h i.1 i.2)
  have hl : (List.ofFn f).length = n := List.length_ofFn
  have hp := E.pos
  refine ⟨List.ofFn f, ⟨by rw [Enc.cells_len, hl], fun h0 => ⟨a, rfl, ?_, fun k u hu => ?_⟩⟩, hl, hn, by unfold maxLen at hc; omega⟩
  · have hlt : 0 < (E.f (f ⟨0, h0⟩)).length := by rw [E.len]; exact hp
    have h1 := hf ⟨0, h0⟩ 0 _ (List.getElem?_eq_getElem hlt)
    have := World.block_lt_of_cell? w _ h1
    rwa [block_of_add] at this
  · have hk : k < n * E.size := by
      rcases Nat.lt_or_ge k (n * E.size) with h | h
      · exact h
      · rw [List.getElem?_eq_none (by rw [Enc.cells_len, hl]; exact h)] at hu
        cases hu
    have hi : k / E.size < n := Nat.div_lt_of_lt_mul (by rw [Nat.mul_comm]; exact hk)
    have hj : k % E.size < E.size := Nat.mod_lt _ hp
    have he : k / E.size * E.size + k % E.size = k := by rw [Nat.mul_comm]; exact Nat.div_add_mod k E.size
    have h1 := Enc.cells_at (E := E) (List.ofFn f) (k / E.size) (k % E.size) (by rw [hl]; exact hi) hj
    rw [he, hu] at h1
    have h2 := hf ⟨k / E.size, hi⟩ (k % E.size) u (by rw [h1]; congr 1; simp)
    rwa [show (⟨k / E.size, hi⟩ : Fin n).1 * E.size + k % E.size = k from he] at h2
end Go.Proofs.Ytcdacnhggpfnaaa

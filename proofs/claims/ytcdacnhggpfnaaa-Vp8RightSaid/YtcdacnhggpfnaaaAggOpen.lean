/- A struct by value that came in, its fields of one cell each, whatever their number; a list of numbers. No program in sight. -/
import Derived.Test.YtcdacnhggpfnaaaElsOpen
import Derived.Lib.SmallJoins
import Derived.Deep.Slices
import Derived.Deep.Fields
import Derived.ChangeSame
import Derived.ProofKit
import Derived.OpenShut
namespace Go.Proofs.Ytcdacnhggpfnaaa
open Go.Joins Go.ChangeShapes Go.WideShapes Go.ChangeAt Go.RowKit Go.Deep
section
variable {H : Type} {enc : TypeId × Value → H} {P : Program} {w : World} {base : Nat} {spare : Nat → Bool} {held : Bool}
theorem open_aggs {r : Reach} {b0 : Nat} {t : TypeId} {fs : Array Field} {v : Value} {d : DataW H} {p : List MemPlace} (hs : P.underlying t = some (.struct fs)) (hone : oneCellFields P fs = true) (hC : P.cellsOf t = fs.size)
    (hv : Value.okWide P w r b0 t v) (h : DataW.Trod enc P w base spare held t v d p) :
    ∃ (l : List Value) (n : Nat), v = .agg l.toArray ∧ l.length = fs.size ∧ ∀ (j : Nat) (f : Field), fs[j]? = some f → ∃ (x : Value) (y : DataW H × List MemPlace), l[j]? = some x ∧ DataW.trod enc P w base spare held n f.type [x] = some y := by
  obtain ⟨cs, rfl, hsz⟩ := okWide_struct hs hv
  obtain ⟨fuel, hf⟩ := h
  obtain ⟨xs, n, _, hx, _, hlen, hg⟩ := DataW.trod_struct hs hf
  refine ⟨cs.toList, n, by simp, by simpa using hsz.trans hC, fun j f hj => ?_⟩
  obtain ⟨o, k⟩ := hone_of hone j f hj
  have hjl : j < fs.size := (Array.getElem?_eq_some_iff.1 hj).1
  have h1 := hg j f hj
  rw [o, k] at h1
  have hc : (Value.agg cs).cells = cs := by simp [Value.cells]
  rw [hc] at h1
  have hl : j < cs.toList.length := by simpa using (show j < cs.size by rw [hsz, hC]; exact hjl)
  have h2 : (cs.toList.drop j).take 1 = [cs.toList[j]] := by
    rw [List.drop_eq_getElem_cons hl]
    rfl
  rw [h2] at h1
  have hxl : j < xs.length := by rw [hlen]; exact hjl
  exact ⟨_, _, List.getElem?_eq_getElem hl, h1.trans (List.getElem?_eq_getElem hxl)⟩
/-- A list of numbers that came in. -/
theorem open_els {α : Type} {E : Enc α} {k : IntKind} {t e : TypeId} {n : Nat} {c : Value} {y : DataW H × List MemPlace} (ht : P.underlying t = some (.slice e)) (he : P.underlying e = some (.int k)) (hc : P.cellsOf e = 1) (hsz : E.size = 1)
    (hof : ∀ z : Int, (Lit.int k z).wf = true → ∃ x, E.f x = [.int k z]) (h : DataW.trod enc P w base (fun _ => true) held n t [c] = some y) : ∃ A m cp l, c = .slice A m cp ∧ Els E w A m cp l := by
  rcases open_ints ht he hc h with ⟨hcs, _⟩ | ⟨x, len, cap, zs, hcs, _, hl, hm, hz, _, hcell, hwz⟩
  · injection hcs with hcs _
    subst hcs
    exact ⟨none, 0, 0, [], rfl, Els.nil w⟩
  · injection hcs with hcs _
    subst hcs
    simp at hz
    have hh : ∃ l, Els E w (some x) len cap l := by
      refine Els.of_cells (E := E) hl hm fun i hi => ?_
      have h1 := hcell i (by omega)
      obtain ⟨a, ha⟩ := hof _ (hwz (zs.getD i 0) (by rw [List.getD_eq_getElem?_getD, List.getElem?_eq_getElem (by omega)]; exact List.getElem_mem _))
      refine ⟨a, fun j u hj => ?_⟩
      rw [ha] at hj
      have hj0 : j = 0 := by
        rcases j with _ | j
        · rfl
        · simp at hj
      subst hj0
      simp only [List.getElem?_cons_zero, Option.some.injEq] at hj
      rw [← hj, hsz, Nat.mul_one, Nat.add_zero, h1]
    obtain ⟨l, hl⟩ := hh
    exact ⟨_, _, _, l, rfl, hl⟩
end
end Go.Proofs.Ytcdacnhggpfnaaa

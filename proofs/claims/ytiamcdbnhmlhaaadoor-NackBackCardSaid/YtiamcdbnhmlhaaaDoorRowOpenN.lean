/- What the arguments of layer 15's rows are: a kind, a lemma. -/
import Derived.Test.YtiamcdbnhmlhaaaDoorRows
import Derived.Test.YtiamcdbnhmlhaaaDoorRowIn
import Derived.Test.YtiamcdbnhmlhaaaDoorNackA
import Derived.WalkKit
import Derived.ProofKit
import Derived.OpenShut
import Derived.ShutString
import Derived.ChangeOld
import Derived.Below
import Derived.Lib.SmallJoins
import Derived.Deep.SlicePairs
import Derived.Test.YtiamcdbnhmlhaaaDoorElsOpen
namespace Go.Proofs.YtiamcdbnhmlhaaaDoor
open Go.ChangeShapes Go.WideShapes Go.ChangeAt Go.RowKit
open Go.ChangeMaps (open_string shut_string)
section
variable {H : Type} {enc : TypeId × Value → H} {W : World} {base : Nat} {d : DataW H} {p : List MemPlace} {v : Value}
theorem in_bytes (hv : Value.okWide Tryd.prog W .any base 24 v) (h : DataW.Trod enc Tryd.prog W 0 (fun _ => true) true 24 v d p) : ∃ A n c l, v = .slice A n c ∧ Bytes W A n c l := by
  obtain ⟨a0, len0, cap0, rfl⟩ := okWide_slice Tryd.underlying24 hv
  obtain ⟨fuel, hf⟩ := h
  rcases open_ints Tryd.underlying24 Tryd.underlying5 (by kernel_rfl) hf with ⟨hcs, _⟩ | ⟨x, l, c, zs, hcs, _, hl, hm, hz, _, hcell, hwz⟩
  · simp [Value.cells] at hcs
    obtain ⟨rfl, rfl, rfl⟩ := hcs
    exact ⟨_, _, _, [], rfl, Bytes.nil W⟩
  · simp [Value.cells] at hcs
    obtain ⟨rfl, rfl, rfl⟩ := hcs
    obtain ⟨l, hb⟩ := Bytes.of_row (.inr ⟨_, rfl, hl, hm, by simpa using hz, hcell, hwz⟩)
    exact ⟨_, _, _, l, rfl, hb⟩
theorem in_u16s (hv : Value.okWide Tryd.prog W .any base 23 v) (h : DataW.Trod enc Tryd.prog W 0 (fun _ => true) true 23 v d p) : ∃ A n c l, v = .slice A n c ∧ Els e16 W A n c l := by
  obtain ⟨a0, len0, cap0, rfl⟩ := okWide_slice Tryd.underlying23 hv
  obtain ⟨fuel, hf⟩ := h
  rcases open_ints Tryd.underlying23 Tryd.underlying39 (by kernel_rfl) hf with ⟨hcs, _⟩ | ⟨x, len, c, zs, hcs, _, hl, hm, hz, _, hcell, hwz⟩
  · simp [Value.cells] at hcs
    obtain ⟨rfl, rfl, rfl⟩ := hcs
    exact ⟨_, _, _, [], rfl, Els.nil W⟩
  · simp [Value.cells] at hcs
    obtain ⟨rfl, rfl, rfl⟩ := hcs
    simp at hz
    have hh : ∃ l, Els e16 W (some x) len0 cap0 l := by
      refine Els.of_cells (E := e16) hl hm fun i hi => ?_
      have h1 := hcell i (by omega)
      have h2 := bounds_u16 (hwz (zs.getD i 0) (by rw [List.getD_eq_getElem?_getD, List.getElem?_eq_getElem (by omega)]; exact List.getElem_mem _))
      refine ⟨UInt16.ofNat (zs.getD i 0).toNat, fun j u hj => ?_⟩
      have hj0 : j = 0 := by
        rcases j with _ | j
        · rfl
        · simp [e16] at hj
      subst hj0
      simp only [e16, List.getElem?_cons_zero, Option.some.injEq] at hj
      rw [← hj, show i * e16.size + 0 = i from Nat.mul_one i, h1, UInt16.toNat_ofNat']
      congr 2
      omega
    obtain ⟨l, hl⟩ := hh
    exact ⟨_, _, _, l, rfl, hl⟩
theorem in_pairs (hv : Value.okWide Tryd.prog W .any base 22 v) (h : DataW.Trod enc Tryd.prog W 0 (fun _ => true) true 22 v d p) : ∃ A n c l, v = .slice A n c ∧ Els ePr W A n c l := by
  obtain ⟨a0, len0, cap0, rfl⟩ := okWide_slice Tryd.underlying22 hv
  obtain ⟨fuel, hf⟩ := h
  rcases Go.Deep.open_slice_pairs Tryd.underlying22 Tryd.underlying41 (by kernel_rfl) (by kernel_rfl) (by kernel_rfl) (by kernel_rfl) (by kernel_rfl) hf with ⟨hcs, _⟩ | ⟨a, len, cap, m, k, V0, V1, D0, D1, P0, P1, hcs, _, hl, hm, hmm, _, hi⟩
  · simp [Value.cells] at hcs
    obtain ⟨rfl, rfl, rfl⟩ := hcs
    exact ⟨_, _, _, [], rfl, Els.nil W⟩
  · simp [Value.cells] at hcs
    obtain ⟨rfl, rfl, rfl⟩ := hcs
    simp at hmm
    have hh : ∃ l, Els ePr W (some a) len0 cap0 l := by
      refine Els.of_cells (E := ePr) hl hm fun i hi' => ?_
      obtain ⟨c0, c1, t0, t1⟩ := hi i (by omega)
      obtain ⟨x, e0, _, w0⟩ := DataW.trod_int Tryd.underlying39 t0
      obtain ⟨y, e1, _, w1⟩ := DataW.trod_int Tryd.underlying39 t1
      simp only [List.cons.injEq, and_true] at e0 e1
      have b0 := bounds_u16 w0
      have b1 := bounds_u16 w1
      refine ⟨(UInt16.ofNat x.toNat, UInt16.ofNat y.toNat), fun j u hj => ?_⟩
      rcases j with _ | _ | j
      · simp only [ePr, List.getElem?_cons_zero, Option.some.injEq] at hj
        rw [← hj, show i * ePr.size + 0 = i * 2 from rfl, c0, e0, UInt16.toNat_ofNat']
        congr 2
        omega
      · simp only [ePr, List.getElem?_cons_succ, List.getElem?_cons_zero, Option.some.injEq] at hj
        rw [← hj, show i * ePr.size + (0 + 1) = i * 2 + 1 from rfl, c1, e1, UInt16.toNat_ofNat']
        congr 2
        omega
      · simp [ePr] at hj
    obtain ⟨l, hl⟩ := hh
    exact ⟨_, _, _, l, rfl, hl⟩
theorem in_int {k : IntKind} {t : TypeId} (ht : Tryd.prog.underlying t = some (.int k)) (hv : Value.okWide Tryd.prog W .any base t v) (h : DataW.Trod enc Tryd.prog W 0 (fun _ => true) true t v d p) : ∃ a, v = .int k a ∧ (Lit.int k a).wf = true := by
  obtain ⟨a, rfl, rfl, rfl, w⟩ := open_int ht hv h
  exact ⟨a, rfl, w⟩
theorem in_pair (hv : Value.okWide Tryd.prog W .any base 41 v) (h : DataW.Trod enc Tryd.prog W 0 (fun _ => true) true 41 v d p) : ∃ q : Pr, v = .agg #[.int .u16 (q.1.toNat : Int), .int .u16 (q.2.toNat : Int)] := by
  obtain ⟨v0, v1, y0, y1, n, rfl, rfl, rfl, h0, h1⟩ := Go.Joins.open_agg2 Tryd.underlying41 (by kernel_rfl) (by kernel_rfl) hv h
  obtain ⟨x, e0, _, w0⟩ := DataW.trod_int Tryd.underlying39 h0
  obtain ⟨y, e1, _, w1⟩ := DataW.trod_int Tryd.underlying39 h1
  simp only [List.cons.injEq, and_true] at e0 e1
  subst e0 e1
  have b0 := bounds_u16 w0
  have b1 := bounds_u16 w1
  refine ⟨(UInt16.ofNat x.toNat, UInt16.ofNat y.toNat), ?_⟩
  rw [UInt16.toNat_ofNat', UInt16.toNat_ofNat']
  congr 3
  · congr 1; omega
  · congr 2; omega
end
end Go.Proofs.YtiamcdbnhmlhaaaDoor

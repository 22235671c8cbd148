/- The listed table of math/bits, as the row's premise gives it to the walks. -/
import Derived.Test.YtiamcdbnhmlhaaaDoorNackA
import Derived.Test.YtiamcdbnhmlhaaaDoorRowOpenN
import Derived.LaidMore
import Derived.MakeChecks
import Derived.LaidHandle
import Derived.FnData
import Derived.Stop.Joined
namespace Go.Proofs.YtiamcdbnhmlhaaaDoor
open Go.ChangeShapes Go.WideShapes Go.ChangeAt Go.RowKit
def laidT : List (String × DataW Unit) := [("math/bits.deBruijn32tab", Rows.laid_math_bits_deBruijn32tab)]
theorem gTab : Tryd.prog.globalNamed "math/bits.deBruijn32tab" = some 0 := by kernel_rfl
theorem tTab : (Tryd.prog.globals[0]?).map (·.type) = some 54 := by kernel_rfl
theorem door_met (os : Os) (args : Array Value) : laidMetH Tryd.prog laidT ((World.doorLaid Tryd.prog 400 os).forCall (fun _ _ => 0) ⟨#[], args, []⟩).memory :=
  laidMetH_of_parts3 (fuel := 8) (laidMet_of_run' 8 (by kernel_rfl) (by kernel_rfl)) (by kernel_rfl) (by kernel_rfl)
theorem tab_of_laid {W : World} (h : laidMetH Tryd.prog laidT W) : Tab W := by
  rw [MakeChecks.laidMetH_plain _ _ _ (by kernel_rfl)] at h
  obtain ⟨ps, ⟨g0, t0, cs0, f0, p0, q0, hg0, ht0, hv0, hd0, _, _⟩, _, _⟩ := h
  obtain rfl := Option.some.inj (gTab.symm.trans hg0)
  obtain rfl := Option.some.inj (tTab.symm.trans ht0)
  obtain ⟨xs, m1, rfl, hx1, hlen, hn3, hel⟩ := DataW.trod_array Tryd.underlying54 hd0
  have c1 : Tryd.prog.cellsOf 5 = 1 := by kernel_rfl
  have c32 : Tryd.prog.cellsOf 54 = 32 := by kernel_rfl
  rw [c1] at hel
  rw [c32] at hlen
  have hxs : xs.map (·.1) = tab.map (fun (n : Nat) => (.lit (.int .u8 (n : Int)) : DataW Unit)) := by
    have h1 := congrArg Prod.fst hx1
    have h2 : (Rows.laid_math_bits_deBruijn32tab : DataW Unit) = .agg (xs.map (·.1)) := h1
    have h3 : (Rows.laid_math_bits_deBruijn32tab : DataW Unit) = .agg (tab.map (fun (n : Nat) => (.lit (.int .u8 (n : Int)) : DataW Unit))) := rfl
    rw [h3] at h2
    injection h2 with h2
    exact h2.symm
  have hcell : ∀ j, j < 32 → W.cell? ⟨0, j, none⟩ = some (.int .u8 ((tab.getD j 0 : Nat) : Int)) := by
    intro j hj
    have h0 := hel j hj
    have hjx : j < xs.length := by omega
    rw [List.getElem?_eq_getElem hjx] at h0
    obtain ⟨k, e1, e2, _⟩ := DataW.trod_int Tryd.underlying5 h0
    have h4 : (xs.map (·.1))[j]? = some (xs[j]).1 := by rw [List.getElem?_map, List.getElem?_eq_getElem hjx]; rfl
    rw [hxs, List.getElem?_map] at h4
    have hjt : j < tab.length := hj
    rw [List.getElem?_eq_getElem hjt, e2] at h4
    have hk : ((tab[j] : Nat) : Int) = k := by simpa using h4
    have h5 := World.var?_cell hg0 hv0 j
    rw [h5]
    have h6 : ((cs0.toList.drop (j * 1)).take 1)[0]? = some (.int .u8 k) := by rw [e1]; rfl
    rw [List.getElem?_take, List.getElem?_drop] at h6
    simp at h6
    have h7 : tab.getD j 0 = tab[j] := by simp [List.getD, hjt]
    rw [h7, hk]
    simpa using h6
  exact ⟨by have := World.block_lt_of_cell? W _ (hcell 0 (by omega)); exact this, hcell⟩
end Go.Proofs.YtiamcdbnhmlhaaaDoor

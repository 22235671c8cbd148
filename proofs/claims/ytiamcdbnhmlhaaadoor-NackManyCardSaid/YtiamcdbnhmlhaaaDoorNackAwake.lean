/- The fixed answer of the statements of layer 15. -/
import Derived.Test.YtiamcdbnhmlhaaaDoorNackB
namespace Go.Proofs.YtiamcdbnhmlhaaaDoor
open Go.RowKit
namespace Aw15
theorem e1 : pairs [10, 11, 26, 27, 65535, 0] = [(10, 32769), (27, 0), (65535, 1)] := by decide +kernel
theorem e2 : bod [(10, 32769), (27, 0), (65535, 1)] = [0, 10, 128, 1, 0, 27, 0, 0, 255, 255, 0, 1] := by decide +kernel
theorem e3 : rL [0, 10, 128, 1, 0, 27, 0, 0, 255, 255, 0, 1] = [(10, 32769), (27, 0), (65535, 1)] := by decide +kernel
theorem e4 : rE [0, 10, 128, 1, 0, 27, 0, 0, 255, 255, 0, 1] = 0 := by decide +kernel
theorem e5 : tells [(10, 32769), (27, 0), (65535, 1)] = [10, 11, 26, 27, 65535, 0] := by decide +kernel
theorem e6 : rL [] = [] := by decide +kernel
theorem e7 : rE [] = 2 := by decide +kernel
end Aw15
open Aw15 in
set_option maxRecDepth 100000 in
set_option maxHeartbeats 1000000 in
theorem awake15 (w : World) (ht : Tab w) : Calls Tryd.prog 7 #[] w fun e w' => e = .returned (.bool true) ∧ Ext w w' := by
  go_enter Tryd.func7, Tryd.ntmps7
  go_wp2_with fail
  refine (pairs_B _ _ _ _ _ (Els.lit (E := e16) (vs := [.int .u16 10, .int .u16 11, .int .u16 26, .int .u16 27, .int .u16 65535, .int .u16 0]) [10, 11, 26, 27, 65535, 0] 39 6 rfl rfl (by omega)) (by omega) _ e1).mono ?_
  rintro e w1 ⟨A1, c1, rfl, hP, hE⟩
  replace hE := ((Ext.refl w).alloc _).trans hE
  go_wp2_with fail
  refine (write_B _ _ _ _ _ hP (by simp) (by simp) _ e2).mono ?_
  rintro e w2 ⟨A2, c2, rfl, _, hB, hE2⟩
  replace hE := hE.trans hE2
  replace hP := hP.ext hE2
  go_wp2_with fail
  refine (read_B _ _ _ _ _ hB _ e3 0 e4).mono ?_
  rintro e w3 ⟨A3, c3, rfl, hQ, hE3⟩
  replace hE := hE.trans hE3
  replace hP := hP.ext hE3
  go_wp2_with fail
  refine (read_B _ _ _ _ _ (Bytes.nil _) _ e6 2 e7).mono ?_
  rintro e w4 ⟨A4, c4, rfl, _, hE4⟩
  replace hE := hE.trans hE4
  replace hP := hP.ext hE4
  replace hQ := hQ.ext hE4
  go_wp2_with fail
  refine (seqs_B _ _ _ _ _ hQ (by simp) (ht.ext hE) _ e5).mono ?_
  rintro e w5 ⟨A5, c5, rfl, hS, hE5⟩
  replace hE := hE.trans hE5
  replace hP := hP.ext hE5
  clear hE2 hE3 hE4 hE5 hQ hB
  obtain ⟨g, o, rfl, hg, hc⟩ := hP.pr (by simp)
  obtain ⟨g2, o2, rfl, hg2, hd⟩ := hS.u16 (by simp)
  obtain ⟨u0, u1⟩ := hc 0 (by simp)
  obtain ⟨u2, u3⟩ := hc 2 (by simp)
  have v0 := hd 2 (by simp)
  have v1 := hd 5 (by simp)
  simp at u0 u1 u2 u3 v0 v1
  have s1 := fun w => eql_pair 10 32769 10 32769 w
  have s2 := fun w => eql_pair 65535 1 65535 1 w
  clear hc hd hP hS
  go_wp2_with fail
  go_ret
  exact ⟨rfl, hE⟩
end Go.Proofs.YtiamcdbnhmlhaaaDoor

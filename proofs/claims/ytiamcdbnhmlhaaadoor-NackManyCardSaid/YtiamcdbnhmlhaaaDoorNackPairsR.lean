/- The document's Pairs: the walk. -/
import Derived.Test.YtiamcdbnhmlhaaaDoorNackPairs2
import Derived.Deep.DeepCutAuto
import Derived.BigQuiet
namespace Go.Proofs.YtiamcdbnhmlhaaaDoor
open Go.RowKit
set_option maxHeartbeats 1000000 in
theorem power_any (n : Nat) (hn : n < 16) (w : World) : Calls Tryd.prog 20 #[.int .i64 n] w fun e w' => e = .returned (.int .u16 ((2 ^ n : Nat) : Int)) ∧ w = w' := by
  go_enter Tryd.func20, Tryd.ntmps20
  go_wp2_with fail
  go_loop [3, 4] (fun x i => ∃ (j : Nat), j ≤ n ∧ i = .int .i64 j ∧ x = .int .u16 ((2 ^ j : Nat) : Int)) (fun _ i => n - (intOf i).toNat)
  case atStart => exact ⟨0, Nat.zero_le _, rfl, rfl⟩
  case round =>
    obtain ⟨j, hj, rfl, rfl⟩ := hrel
    by_cases hlt : j < n
    · have h1 : 2 ^ (j + 1) ≤ 2 ^ 15 := Nat.pow_le_pow_right (by omega) (by omega)
      have h2 : 2 ^ (j + 1) = 2 * 2 ^ j := by rw [Nat.pow_succ]; omega
      obtain ⟨y, hy⟩ : ∃ y, 2 ^ j = y := ⟨_, rfl⟩
      rw [hy] at h2 ⊢
      have hw : IntKind.u16.wrap (2 * (y : Int)) = ((2 * y : Nat) : Int) := by rw [IntKind.wrap_u16]; omega
      have HY := hide h2
      clear hy h2
      go_wp2_with fail
      go_round
      case rel => exact ⟨j + 1, by omega, by go_num, by rw [HY.out]; simp⟩
      case measure => simp [intOf]; omega
    · obtain rfl : j = n := by omega
      go_wp2_with fail
      go_ret
      exact ⟨rfl, rfl⟩
def headLen : List Pr → Nat
  | [] => 0
  | p :: _ => blen p.2.toNat
theorem takes_iff (p : Pr) (x : UInt16) : takesN p x = true ↔ blen p.2.toNat < far p x ∧ far p x ≤ 16 := by
  unfold takesN
  rw [decide_eq_true_eq]
  omega
theorem far_val2 (p : Pr) (n : UInt16) : ((n.toNat : Int) - (p.1.toNat : Int) + 65536) % 65536 = (far p n : Int) := by
  unfold far
  have := p.1.toNat_lt
  have := n.toNat_lt
  rw [UInt16.toNat_sub]
  omega
theorem join_val (p : Pr) (x : UInt16) (ht : takesN p x = true) : IntKind.u16.wrap ((p.2.toNat : Int) + ((2 ^ (far p x - 1) : Nat) : Int)) = ((join1 p x).2.toNat : Int) := by
  obtain ⟨g1, g2, g3, g4⟩ := takes_join ht
  rw [g4, IntKind.wrap_u16]
  omega
set_option maxRecDepth 100000 in
set_option maxHeartbeats 1000000 in
theorem rpairs_any (A : Option Addr) (n c : Nat) (s : List UInt16) (w : World) (h : Els e16 w A n c s) (hn : n ≤ 16777216) : Calls Tryd.prog 13 #[.slice A n c] w fun e w' =>
    ∃ A' c', e = .returned (.slice A' (pairs s).length c') ∧ w'.ownsRow w.heap.size 41 2 (.slice A' (pairs s).length c') (pairs s).length (ePr.cells (pairs s)) ∧ Ext w w' := by
  obtain ⟨T⟩ := tyPr
  have hlen := h.len
  have hnc := h.le
  have hcm := h.reach
  go_enter Tryd.func13, Tryd.ntmps13
  go_wp2_with fail
  go_loopw [3, 4, 5] (fun v hi i wr => ∃ (j : Nat) (A' : Option Addr) (c' : Nat), j ≤ n ∧ i = .int .i64 j ∧ hi = .int .i64 (headLen (pairsR (s.take j))) ∧ v = .slice A' (pairsR (s.take j)).length c' ∧ wr.ownsRow w.heap.size 41 2 (.slice A' (pairsR (s.take j)).length c') (pairsR (s.take j)).length (ePr.cells (pairsR (s.take j)).reverse) ∧ Ext w wr) (fun _ _ i _ => n - (intOf i).toNat)
  case atStart => exact ⟨0, none, 0, Nat.zero_le _, rfl, rfl, rfl, World.ownsRow_nil _ _ _ _, Ext.refl _⟩
  case round =>
    obtain ⟨j, A', c', hj, rfl, rfl, rfl, hown, hE⟩ := hrel
    by_cases hlt : j < n
    · have hjl : j < s.length := by omega
      obtain ⟨g, o, rfl, hg, hcell⟩ := (h.ext hE).u16 (by omega)
      have hc0 := hcell j hjl
      have hts := pairsR_take s j hjl
      have hlj := pairsR_len (s.take j)
      rw [List.length_take] at hlj
      generalize pairsR (s.take j) = R at hown hts hlj ⊢
      generalize s[j] = x at hc0 hts
      clear hcell
      cases R with
      | nil =>
        go_wp2_with (at_builtin; refine wpList_appE T w _ _ rfl rfl (hE.alloc _) A' 0 c' [] rfl (hown.alloc _) _ 1 1 [(x, 0)] rfl (Els.lit_at (by simp) [(x, 0)] 41 1 (ePr_cells_one _) rfl (by omega)) (by omega) ?_; intro A2 c2 w2 hown2 hE2 hk2)
        go_roundw
        case rel => exact ⟨j + 1, A2, c2, by omega, by go_num, by rw [hts]; rfl, by rw [hts]; rfl, by rw [hts]; exact hown2, hE2⟩
        case measure => simp [intOf]; omega
      | cons p r =>
        have hl1 : IntKind.i64.wrap (((r.length + 1 : Nat) : Int) - 1) = (r.length : Int) := by rw [IntWalk.i64_in _ (by simp at hlj; omega)]; omega
        obtain ⟨g2, rfl, hg2, hg3, hq0, hq1, hqf⟩ := own_last hown
        simp only [List.length_cons, headLen] at hown hlj ⊢
        have hfar := far_val2 p x
        have hti := takes_iff p x
        obtain ⟨b, hb⟩ : ∃ b, blen p.2.toNat = b := ⟨_, rfl⟩
        rw [hb] at hti ⊢
        have hfl := far_lt p x
        have hx := x.toNat_lt
        have hpx := p.1.toNat_lt
        have hwa : IntKind.i64.wrap ((x.toNat : Int) - (p.1.toNat : Int)) = (x.toNat : Int) - (p.1.toNat : Int) := IntWalk.i64_in _ (by omega)
        have hwb : IntKind.i64.wrap ((x.toNat : Int) - (p.1.toNat : Int) + 65536) = (x.toNat : Int) - (p.1.toNat : Int) + 65536 := IntWalk.i64_in _ (by omega)
        have hwc : IntKind.i64.wrap (x.toNat : Int) = (x.toNat : Int) := IntWalk.i64_in _ (by omega)
        have hwd : IntKind.i64.wrap (p.1.toNat : Int) = (p.1.toNat : Int) := IntWalk.i64_in _ (by omega)
        obtain ⟨F, hF⟩ : ∃ F, far p x = F := ⟨_, rfl⟩
        rw [hF] at hfar hti hfl
        go_upto_region 7 with fail
        go_quiet (fail)
        rw [hfar]
        have hown1 := own_ext hown ((Ext.refl wr).drewN nq)
        have hE1 := hE.drewN nq
        replace hc0 : (wr.drewN nq).cell? ⟨g, o + j, none⟩ = _ := hc0
        replace hg : g < (wr.drewN nq).heap.size := hg
        generalize wr.drewN nq = w1 at hown1 hE1 hc0 hg ⊢
        clear hq0 hq1 hqf hown hE hg3 hwa hwb hwc hwd hfar
        by_cases hlo : b < F
        · by_cases hhi : F ≤ 16
          · have ht := hti.2 ⟨hlo, hhi⟩
            obtain ⟨j1, j2, j3, j4⟩ := takes_join ht
            have hbl : blen (join1 p x).2.toNat = F := by rw [j4, blen_add j1, hF]; omega
            have hv := join_val p x ht
            rw [hF] at hv
            have hv2 : IntKind.u16.wrap ((p.2.toNat : Int) + 2 ^ (F - 1)) = ((join1 p x).2.toNat : Int) := by rw [← hv]; simp
            clear hv
            obtain ⟨g3, e3, _, hg4, hr0, hr1, hrf⟩ := own_last hown1
            injection e3 with e3
            injection e3 with e3 _ _
            subst e3
            have hs1 : IntKind.i64.wrap ((F : Int) - 1) = ((F - 1 : Nat) : Int) := by rw [IntWalk.i64_in _ (by omega)]; omega
            have S := power_any (F - 1) (by omega) w1.drew
            have hsto := (hown1.drew).stored (r.length * 2 + 1) (.int .u16 ((join1 p x).2.toNat : Int))
            rw [set_last p (join1 p x) r rfl] at hsto
            have hrf2 : w1.drew.frozen? ⟨g2, r.length * 2 + 1, none⟩ = false := hrf
            have hr2 : w1.drew.cell? ⟨g2, r.length * 2 + 1, none⟩ = some (.int .u16 (p.2.toNat : Int)) := hr1
            clear j1 j2 j3 j4
            have hl2 : IntKind.i64.wrap (r.length : Int) = (r.length : Int) := IntWalk.i64_in _ (by omega)
            have hix : (r.length : Int) < (r.length : Int) + 1 := by omega
            go_upto_region 9 with fail
            go_still_tail 17, (by kernel_rfl)
            still_call (S.mono fun _ _ hs => ⟨hs.1, hs.2.symm⟩)
            repeat still_step
            refine wpStill_nil ?_
            change wpList _ _ _ _ _ w1.drew
            generalize hw3 : w1.drew = w3 at hsto hrf2 hr2 ⊢
            have hE3 : Ext w w3 := by rw [← hw3]; exact hE1.drew
            clear hw3 hr0 hr1 hrf S
            go_wp2_with fail
            go_roundw
            case rel => exact ⟨j + 1, some ⟨g2, 0, none⟩, c', by omega, by go_num, by rw [hts, stepR, ht]; exact congrArg (fun k : Nat => Value.int .i64 (k : Int)) hbl.symm, by rw [hts, stepR, ht]; rfl, by rw [hts, stepR, ht]; exact hsto.1, hE3.setCell (p := ⟨g2, r.length * 2 + 1, none⟩) hg2 _⟩
            case measure => simp [intOf]; omega
          · have ht : takesN p x = false := by
              cases h : takesN p x
              · rfl
              · exact absurd (hti.1 h).2 hhi
            go_wp2_with (at_builtin; refine wpList_appE T w _ _ rfl rfl (hE1.alloc _) _ _ c' (p :: r).reverse rfl (hown1.alloc _) _ 1 1 [(x, 0)] rfl (Els.lit_at (by simp) [(x, 0)] 41 1 (ePr_cells_one _) rfl (by omega)) (by omega) ?_; intro A2 c2 w2 hown2 hE2 hk2)
            go_roundw
            case rel => exact ⟨j + 1, A2, c2, by omega, by go_num, by rw [hts, stepR, ht]; rfl, by rw [hts, stepR, ht]; rfl, by rw [hts, stepR, ht, cond_false, List.reverse_cons]; exact hown2, hE2⟩
            case measure => simp [intOf]; omega
        · have ht : takesN p x = false := by
            cases h : takesN p x
            · rfl
            · exact absurd (hti.1 h).1 hlo
          go_wp2_with (at_builtin; refine wpList_appE T w _ _ rfl rfl (hE1.alloc _) _ _ c' (p :: r).reverse rfl (hown1.alloc _) _ 1 1 [(x, 0)] rfl (Els.lit_at (by simp) [(x, 0)] 41 1 (ePr_cells_one _) rfl (by omega)) (by omega) ?_; intro A2 c2 w2 hown2 hE2 hk2)
          go_roundw
          case rel => exact ⟨j + 1, A2, c2, by omega, by go_num, by rw [hts, stepR, ht]; rfl, by rw [hts, stepR, ht]; rfl, by rw [hts, stepR, ht, cond_false, List.reverse_cons]; exact hown2, hE2⟩
          case measure => simp [intOf]; omega
    · obtain rfl : j = n := by omega
      rw [← hlen, List.take_length] at hown ⊢
      go_wp2_with fail
      go_ret
      exact ⟨A', c', by simp [pairs], by unfold pairs; rw [List.length_reverse]; exact hown, hE⟩
end Go.Proofs.YtiamcdbnhmlhaaaDoor

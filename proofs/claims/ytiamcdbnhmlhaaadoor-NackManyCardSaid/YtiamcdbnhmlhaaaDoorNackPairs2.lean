/- nack.Pairs: the walk. -/
import Derived.Test.YtiamcdbnhmlhaaaDoorNackPairs
import Derived.StillTailTactics
namespace Go.Proofs.YtiamcdbnhmlhaaaDoor
open Go.RowKit
theorem ePr_cells_one (p : Pr) : ePr.cells [p] = [.int .u16 (p.1.toNat : Int), .int .u16 (p.2.toNat : Int)] := rfl
theorem stepR_len (R : List Pr) (n : UInt16) : (stepR R n).length ≤ R.length + 1 := by
  cases R with
  | nil => simp [stepR]
  | cons p r => rw [stepR]; cases takesN p n <;> simp
theorem pairsR_take (s : List UInt16) (j : Nat) (h : j < s.length) : pairsR (s.take (j + 1)) = stepR (pairsR (s.take j)) s[j] := by
  unfold pairsR
  rw [List.take_succ_eq_append_getElem h, List.foldl_append]
  rfl
theorem pairsR_len (s : List UInt16) : (pairsR s).length ≤ s.length := by
  have : ∀ (s : List UInt16) (R : List Pr), (s.foldl stepR R).length ≤ R.length + s.length := by
    intro s
    induction s with
    | nil => intro R; simp
    | cons n s ih =>
      intro R
      have h1 := ih (stepR R n)
      have h2 := stepR_len R n
      simp only [List.foldl_cons, List.length_cons]
      omega
  unfold pairsR
  simpa using this s []
theorem own_ext {w w' : World} {base : Nat} {e : TypeId} {size n : Nat} {v : Value} {xs : List Value} (h : w.ownsRow base e size v n xs) (hE : Ext w w') : w'.ownsRow base e size v n xs := by
  refine ⟨h.1, ?_⟩
  rcases h.2 with h0 | ⟨g, cap, cur, h1, h2, h3, h4⟩
  · exact .inl h0
  · exact .inr ⟨g, cap, cur, h1, h2, (hE.block g (Array.getElem?_eq_some_iff.1 h3).1).trans h3, h4⟩
/-- The last pair of an owned row: where it lies. -/
theorem own_last {w : World} {base : Nat} {e : TypeId} {A : Option Addr} {c : Nat} {p : Pr} {r : List Pr} (h : w.ownsRow base e 2 (.slice A (r.length + 1) c) (r.length + 1) (ePr.cells (p :: r).reverse)) :
    ∃ g, A = some ⟨g, 0, none⟩ ∧ base ≤ g ∧ g < w.heap.size ∧ w.cell? ⟨g, r.length * 2, none⟩ = some (.int .u16 (p.1.toNat : Int)) ∧ w.cell? ⟨g, r.length * 2 + 1, none⟩ = some (.int .u16 (p.2.toNat : Int)) ∧ w.frozen? ⟨g, r.length * 2 + 1, none⟩ = false := by
  obtain ⟨g, cap, cur, e1, hb, hg, _⟩ : ∃ g cap cur, (Value.slice A (r.length + 1) c) = .slice (some ⟨g, 0, none⟩) (r.length + 1) cap ∧ base ≤ g ∧ w.heap[g]? = some (.cells cur e (0, 0)) ∧ True := by
    rcases h.2 with ⟨hv, hn⟩ | ⟨g, cap, cur, hv, hb, hg, _⟩
    · injection hv with _ h1 _; omega
    · exact ⟨g, cap, cur, hv, hb, hg, trivial⟩
  injection e1 with e1 _ e2
  subst e1 e2
  have hlt : g < w.heap.size := (Array.getElem?_eq_some_iff.1 hg).1
  have hx : ePr.cells (p :: r).reverse = ePr.cells r.reverse ++ [.int .u16 (p.1.toNat : Int), .int .u16 (p.2.toNat : Int)] := by
    rw [List.reverse_cons, Enc.cells_append, ePr_cells_one]
  have hl : (ePr.cells r.reverse).length = r.length * 2 := by rw [Enc.cells_len, List.length_reverse]; rfl
  refine ⟨g, rfl, hb, hlt, ?_, ?_, h.frozenAt _⟩
  · rw [h.cellAt _ (by omega), hx, List.getElem?_append_right (by omega), hl, Nat.sub_self]; rfl
  · rw [h.cellAt _ (by omega), hx, List.getElem?_append_right (by omega), hl, Nat.add_sub_cancel_left]; rfl
theorem set_last (p q : Pr) (r : List Pr) (h : p.1 = q.1) : (ePr.cells (p :: r).reverse).set (r.length * 2 + 1) (.int .u16 (q.2.toNat : Int)) = ePr.cells (q :: r).reverse := by
  have hl : (ePr.cells r.reverse).length = r.length * 2 := by rw [Enc.cells_len, List.length_reverse]; rfl
  rw [List.reverse_cons, List.reverse_cons, Enc.cells_append, Enc.cells_append, ePr_cells_one, ePr_cells_one, List.set_append_right _ _ (by omega), hl, Nat.add_sub_cancel_left, h]
  rfl
theorem u16_or_nat (a b : Nat) (ha : a < 65536) (hb : b < 65536) : bits .or .u16 (a : Int) (b : Int) = ((a ||| b : Nat) : Int) := by
  have hx : a ||| b < 2 ^ 16 := Nat.or_lt_two_pow (by omega) (by omega)
  show IntKind.u16.wrap ((BitVec.ofInt 16 (a : Int) ||| BitVec.ofInt 16 (b : Int)).toNat : Int) = _
  rw [BitVec.toNat_or, ofInt_u16 a ha, ofInt_u16 b hb, IntKind.wrap_u16]
  omega
theorem or_val (p : Pr) (x : UInt16) (ht : takesN p x = true) : bits .or .u16 (p.2.toNat : Int) (IntKind.u16.wrap (2 ^ (far p x - 1))) = ((join1 p x).2.toNat : Int) := by
  obtain ⟨g1, g2, g3, g4⟩ := takes_join ht
  have hp : ((2 : Int) ^ (far p x - 1)) = ((2 ^ (far p x - 1) : Nat) : Int) := by simp
  have hw : IntKind.u16.wrap ((2 ^ (far p x - 1) : Nat) : Int) = ((2 ^ (far p x - 1) : Nat) : Int) := by rw [IntKind.wrap_u16]; omega
  rw [hp, hw, u16_or_nat _ _ p.2.toNat_lt (by omega), g4]
  congr 1
  rw [Nat.or_comm, Nat.add_comm]
  have := Nat.two_pow_add_eq_or_of_lt g1 1
  rw [Nat.mul_one] at this
  exact this.symm
set_option maxRecDepth 100000 in
set_option maxHeartbeats 1000000 in
theorem pairs_any (A : Option Addr) (n c : Nat) (s : List UInt16) (w : World) (h : Els e16 w A n c s) (hn : n ≤ 16777216) : Calls Tryd.prog 12 #[.slice A n c] w fun e w' =>
    ∃ A' c', e = .returned (.slice A' (pairs s).length c') ∧ w'.ownsRow w.heap.size 41 2 (.slice A' (pairs s).length c') (pairs s).length (ePr.cells (pairs s)) ∧ Ext w w' := by
  obtain ⟨T⟩ := tyPr
  have hlen := h.len
  have hnc := h.le
  have hcm := h.reach
  go_enter Tryd.func12, Tryd.ntmps12
  go_wp2_with fail
  go_loopw [3, 9] (fun v i wr => ∃ (j : Nat) (A' : Option Addr) (c' : Nat), j ≤ n ∧ i = .int .i64 j ∧ v = .slice A' (pairsR (s.take j)).length c' ∧ wr.ownsRow w.heap.size 41 2 (.slice A' (pairsR (s.take j)).length c') (pairsR (s.take j)).length (ePr.cells (pairsR (s.take j)).reverse) ∧ Ext w wr) (fun _ i _ => n - (intOf i).toNat)
  case atStart => exact ⟨0, none, 0, Nat.zero_le _, rfl, rfl, World.ownsRow_nil _ _ _ _, Ext.refl _⟩
  case round =>
    obtain ⟨j, A', c', hj, rfl, rfl, hown, hE⟩ := hrel
    by_cases hlt : j < n
    · have hjl : j < s.length := by omega
      obtain ⟨g, o, rfl, hg, hcell⟩ := (h.ext hE).u16 (by omega)
      have hc0 := hcell j hjl
      have hts := pairsR_take s j hjl
      have hlj := pairsR_len (s.take j)
      rw [List.length_take] at hlj
      generalize pairsR (s.take j) = R at hown hts hlj ⊢
      generalize s[j] = x at hc0 hts
      clear hcell
      cases R with
      | nil =>
        go_wp2_with (at_builtin; refine wpList_appE T w _ _ rfl rfl (hE.alloc _) A' 0 c' [] rfl (hown.alloc _) _ 1 1 [(x, 0)] rfl (Els.lit_at (by simp) [(x, 0)] 41 1 (ePr_cells_one _) rfl (by omega)) (by omega) ?_; intro A2 c2 w2 hown2 hE2 hk2)
        go_roundw
        case rel => exact ⟨j + 1, A2, c2, by omega, by go_num, by rw [hts]; rfl, by rw [hts]; exact hown2, hE2⟩
        case measure => simp [intOf]; omega
      | cons p r =>
        have hl1 : IntKind.i64.wrap (((r.length + 1 : Nat) : Int) - 1) = (r.length : Int) := by rw [IntWalk.i64_in _ (by simp at hlj; omega)]; omega
        obtain ⟨g2, rfl, hg2, hg3, hq0, hq1, hqf⟩ := own_last hown
        simp only [List.length_cons] at hown hlj ⊢
        have hfar := far_val p x
        cases ht : takesN p x
        · go_wp2_with (first
            | (go_at_call 19; refine (takes_any p x _).mono ?_; rintro e w1 ⟨rfl, hE1⟩; rw [ht]; have hown1 := own_ext hown hE1)
            | (at_builtin; refine wpList_appE T w _ _ rfl rfl ((hE.trans hE1).alloc _) _ _ c' (p :: r).reverse rfl (hown1.alloc _) _ 1 1 [(x, 0)] rfl (Els.lit_at (by simp) [(x, 0)] 41 1 (ePr_cells_one _) rfl (by omega)) (by omega) ?_; intro A2 c2 w2 hown2 hE2 hk2))
          go_roundw
          case rel => exact ⟨j + 1, A2, c2, by omega, by go_num, by rw [hts, stepR, ht]; rfl, by rw [hts, stepR, ht, cond_false, List.reverse_cons]; exact hown2, hE2⟩
          case measure => simp [intOf]; omega
        · have hf1 : 1 ≤ far p x := (of_decide_eq_true ht).1
          have hf2 := (takes_join ht).2.1
          go_wp2_with (first
            | (go_at_call 19; refine (takes_any p x _).mono ?_; rintro e w1 ⟨rfl, hE1⟩; rw [ht]; have hown1 := own_ext hown hE1))
          obtain ⟨g3', e3, _, hg4, hr0, hr1, hrf⟩ := own_last hown1
          injection e3 with e3
          injection e3 with e3 _ _
          subst e3
          have hs1 : IntKind.u16.wrap ((far p x : Int) - 1) = ((far p x - 1 : Nat) : Int) := by rw [IntKind.wrap_u16]; omega
          have hor := or_val p x ht
          have hsto := (hown1.drew).stored (r.length * 2 + 1) (.int .u16 ((join1 p x).2.toNat : Int))
          rw [set_last p (join1 p x) r rfl] at hsto
          have hrf2 : w1.drew.frozen? ⟨g2, r.length * 2 + 1, none⟩ = false := hrf
          have hr2 : w1.drew.cell? ⟨g2, r.length * 2 + 1, none⟩ = some (.int .u16 (p.2.toNat : Int)) := hr1
          go_still_tail 17, (by kernel_rfl)
          change wpList _ _ _ _ _ w1.drew
          generalize hw3 : w1.drew = w3 at hsto hrf2 hr2 ⊢
          have hE3 : Ext w w3 := by rw [← hw3]; exact (hE.trans hE1).drew
          clear hw3 hr0 hr1 hrf
          go_wp2_with fail
          go_roundw
          case rel => exact ⟨j + 1, some ⟨g2, 0, none⟩, c', by omega, by go_num, by rw [hts, stepR, ht]; rfl, by rw [hts, stepR, ht]; exact hsto.1, hE3.setCell (p := ⟨g2, r.length * 2 + 1, none⟩) hg2 _⟩
          case measure => simp [intOf]; omega
    · obtain rfl : j = n := by omega
      rw [← hlen, List.take_length] at hown ⊢
      go_wp2_with fail
      go_ret
      exact ⟨A', c', by simp [pairs], by unfold pairs; rw [List.length_reverse]; exact hown, hE⟩
end Go.Proofs.YtiamcdbnhmlhaaaDoor

/- nack.Write and the document's. -/
import Derived.Test.YtiamcdbnhmlhaaaDoorNackPairs2
import Derived.Test.YtiamcdbnhmlhaaaDoorPlainNackW
import Derived.StillTailTactics
namespace Go.Proofs.YtiamcdbnhmlhaaaDoor
open Go.RowKit
theorem wr_take (l : List Pr) (j : Nat) (h : j < l.length) : bod (l.take (j + 1)) = bod (l.take j) ++ wr1 l[j] := by
  rw [List.take_succ_eq_append_getElem h, wr_append]
  simp [bod]
theorem wr_take_len (l : List Pr) (j : Nat) (h : j ≤ l.length) : (bod (l.take j)).length = 4 * j := by
  rw [wr_len, List.length_take]; omega
theorem or_pair (a b : Nat) (ha : a < 65536) (hb : b < 65536) : bits .or .u64 ((a : Int) * 65536) (b : Int) = ((a * 65536 + b : Nat) : Int) := by
  have e : (a : Int) * 65536 = ((a * 65536 : Nat) : Int) := by omega
  have h64 : ∀ x : Nat, x < 18446744073709551616 → (BitVec.ofInt 64 (x : Int)).toNat = x := fun x hx => by
    rw [BitVec.ofInt_natCast, BitVec.toNat_ofNat]; exact Nat.mod_eq_of_lt hx
  rw [e]
  show IntKind.u64.wrap ((BitVec.ofInt 64 ((a * 65536 : Nat) : Int) ||| BitVec.ofInt 64 (b : Int)).toNat : Int) = _
  rw [BitVec.toNat_or, h64 _ (by omega), h64 _ (by omega), nat_join 16 (a * 65536) b (by omega) (by omega), IntKind.wrap_u64]
  omega
theorem write_no (A : Option Addr) (n c : Nat) (w : World) (h : n = 0 ∨ 16380 < n) : Calls Tryd.prog 14 #[.slice A n c] w fun e w' => e = .returned (.tuple #[.slice none 0 0, .int .i64 1]) ∧ w = w' := by
  rcases h with rfl | h
  · go_enter Tryd.func14, Tryd.ntmps14
    go_wp2_with fail
    go_ret2
    exact ⟨rfl, rfl⟩
  · have h1 : ¬ ((n : Int) < 1) := by omega
    have h2 : (16380 : Int) < (n : Int) := by omega
    go_enter Tryd.func14, Tryd.ntmps14
    go_wp2_with fail
    go_ret2
    exact ⟨rfl, rfl⟩
set_option maxRecDepth 100000 in
set_option maxHeartbeats 1000000 in
theorem write_yes (A : Option Addr) (n c : Nat) (l : List Pr) (w : World) (h : Els ePr w A n c l) (h1 : 1 ≤ n) (h2 : n ≤ 16380) : Calls Tryd.prog 14 #[.slice A n c] w fun e w' =>
    ∃ A' c', e = .returned (.tuple #[.slice A' (4 * n) c', .int .i64 0]) ∧ w'.ownsRow w.heap.size 5 1 (.slice A' (4 * n) c') (4 * n) ((bod l).map Bv) ∧ Ext w w' := by
  have hlen := h.len
  have hnc := h.le
  have hcm := h.reach
  have h3 : ¬ ((n : Int) < 1) := by omega
  have h4 : ¬ ((16380 : Int) < (n : Int)) := by omega
  go_enter Tryd.func14, Tryd.ntmps14
  go_wp2_with fail
  go_loopw [4, 19] (fun v i wr => ∃ (j : Nat) (A' : Option Addr) (c' : Nat), j ≤ n ∧ i = .int .i64 j ∧ v = .slice A' (4 * j) c' ∧ wr.ownsRow w.heap.size 5 1 (.slice A' (4 * j) c') (4 * j) ((bod (l.take j)).map Bv) ∧ Ext w wr) (fun _ i _ => n - (intOf i).toNat)
  case atStart => exact ⟨0, none, 0, Nat.zero_le _, rfl, rfl, World.ownsRow_nil _ _ _ _, Ext.refl _⟩
  case round =>
    obtain ⟨j, A', c', hj, rfl, rfl, hown, hE⟩ := hrel
    by_cases hlt : j < n
    · have hjl : j < l.length := by omega
      obtain ⟨g, o, rfl, hg, hcell⟩ := (h.ext hE).pr (by omega)
      obtain ⟨hc0, hc1⟩ := hcell j hjl
      have hts := wr_take l j hjl
      generalize bod (l.take j) = L at hown hts ⊢
      generalize l[j] = q at hc0 hc1 hts
      have p1 := q.1.toNat_lt
      have p2 := q.2.toNat_lt
      have hor := or_pair q.1.toNat q.2.toNat p1 p2
      have hw1 : IntKind.u64.wrap ((q.1.toNat : Int) * 65536) = (q.1.toNat : Int) * 65536 := by rw [IntKind.wrap_u64]; omega
      have hw2 : IntKind.u64.wrap (q.1.toNat : Int) = (q.1.toNat : Int) := by rw [IntKind.wrap_u64]; omega
      have hw3 : IntKind.u64.wrap (q.2.toNat : Int) = (q.2.toNat : Int) := by rw [IntKind.wrap_u64]; omega
      have hz : putE (q.1.toNat * 65536 + q.2.toNat) 4 = 0 := putE_of (by omega) (by omega) (by show _ < 256 ^ 4; omega)
      have S := hide (fun W => put_B (q.1.toNat * 65536 + q.2.toNat) 4 W (by omega) (wr1 q) (by rw [putL_ok hz]; exact wr1_be q) 0 hz)
      obtain ⟨v, hv⟩ : ∃ v, q.1.toNat * 65536 + q.2.toNat = v := ⟨_, rfl⟩
      rw [hv] at hor S
      clear hcell hz hv
      go_wp2_with fail
      refine (S.out _).mono ?_
      rintro e w1 ⟨Ap, cp, rfl, hBp, hEp⟩
      have hown1 := own_ext (hown.alloc _) hEp
      replace hE := (hE.alloc _).trans hEp
      clear hEp S hown hc0 hc1 hor hw1 hw2 hw3
      go_wp2_with (at_builtin; refine wpList_appB w _ _ rfl rfl hE A' (4 * j) c' L rfl hown1 Ap 4 cp (wr1 q) rfl hBp (by omega) ?_; intro A2 c2 w2 hown2 hE2)
      go_roundw
      case rel => exact ⟨j + 1, A2, c2, by omega, by go_num, rfl, by rw [hts]; exact hown2, hE2⟩
      case measure => simp [intOf]; omega
    · obtain rfl : j = n := by omega
      rw [List.take_of_length_le (by omega)] at hown
      go_wp2_with fail
      go_ret2
      exact ⟨A', c', rfl, hown, hE⟩
end Go.Proofs.YtiamcdbnhmlhaaaDoor

/- The document's Same and Numbers. -/
import Derived.Test.YtiamcdbnhmlhaaaDoorNackPairs2
import Derived.Deep.QuietTactic
import Derived.BigQuiet
import Derived.Laws.StructEq
namespace Go.Proofs.YtiamcdbnhmlhaaaDoor
open Go.RowKit
theorem neq_pair (a b c d : Int) (w : World) : (binOp .neq 41 (.agg #[.int .u16 a, .int .u16 b]) (.agg #[.int .u16 c, .int .u16 d])).run Tryd.prog w = .ok (.bool (!(a == c && b == d))) w := by
  rw [run_neq_struct, run_equalIn_struct w 9999 _ _ _ (by kernel_rfl) (by kernel_rfl)]
  have u3 := Tryd.underlying39
  have a3 := Tryd.isAgg39
  have z3 := Tryd.sizeOf39
  simp only [Program.fieldsOf, Tryd.underlying41]
  go_simp
  by_cases h1 : a = c <;> by_cases h2 : b = d <;> simp [h1, h2]
theorem eql_pair (a b c d : Int) (w : World) : (binOp .eql 41 (.agg #[.int .u16 a, .int .u16 b]) (.agg #[.int .u16 c, .int .u16 d])).run Tryd.prog w = .ok (.bool (a == c && b == d)) w := by
  rw [run_eql_struct, run_equalIn_struct w 9999 _ _ _ (by kernel_rfl) (by kernel_rfl)]
  have u3 := Tryd.underlying39
  have a3 := Tryd.isAgg39
  have z3 := Tryd.sizeOf39
  simp only [Program.fieldsOf, Tryd.underlying41]
  go_simp
  by_cases h1 : a = c <;> by_cases h2 : b = d <;> simp [h1, h2]
theorem take_grow {α : Type} {l m : List α} {j : Nat} (h : l.take j = m.take j) (h1 : j < l.length) (h2 : j < m.length) (e : l[j] = m[j]) : l.take (j + 1) = m.take (j + 1) := by
  rw [List.take_succ_eq_append_getElem h1, List.take_succ_eq_append_getElem h2, h, e]
set_option maxRecDepth 100000 in
set_option maxHeartbeats 1000000 in
theorem numbers_any (A : Option Addr) (n c : Nat) (l : List UInt16) (A2 : Option Addr) (n2 c2 : Nat) (m : List UInt16) (w : World) (h : Els e16 w A n c l) (h2 : Els e16 w A2 n2 c2 m) (r : Bool) (hr : decide (l = m) = r) :
    Calls Tryd.prog 8 #[.slice A n c, .slice A2 n2 c2] w fun e w' => e = .returned (.bool r) ∧ Ext w w' := by
  have hlen := h.len
  have hlen2 := h2.len
  have hnc := h.le
  have hcm := h.reach
  by_cases hne : n = n2
  · subst hne
    go_enter Tryd.func8, Tryd.ntmps8
    go_wp2_with fail
    go_loopw [5] (fun i wr => ∃ (j : Nat), j ≤ n ∧ i = .int .i64 j ∧ l.take j = m.take j ∧ Ext w wr) (fun i _ => n - (intOf i).toNat)
    case atStart => exact ⟨0, Nat.zero_le _, rfl, rfl, Ext.refl _⟩
    case round =>
      obtain ⟨j, hj, rfl, htk, hE⟩ := hrel
      by_cases hlt : j < n
      · have hjl : j < l.length := by omega
        have hjm : j < m.length := by omega
        obtain ⟨g, o, rfl, hg, hcell⟩ := (h.ext hE).u16 (by omega)
        obtain ⟨g2, o2, rfl, hg2, hcell2⟩ := (h2.ext hE).u16 (by omega)
        have hc0 := hcell j hjl
        have hc1 := hcell2 j hjm
        have htg := take_grow htk hjl hjm
        have hback : l = m → l[j] = m[j] := fun e => by subst e; rfl
        have HT := hide htk
        generalize l[j] = x at hc0 htg hback
        generalize m[j] = y at hc1 htg hback
        clear hcell hcell2 htk
        have hlt2 : (j : Int) < (n : Int) := by omega
        by_cases hxy : x = y
        · have hb : ((x.toNat : Int) != (y.toNat : Int)) = false := by rw [hxy]; simp
          go_wp2_with fail
          go_quiet (fail)
          go_wp2_with fail
          go_roundw
          case rel => exact ⟨j + 1, by omega, by go_num, htg hxy, hE.drewN _⟩
          case measure => simp [intOf]; omega
        · have hb : ((x.toNat : Int) != (y.toNat : Int)) = true := by
            rw [bne_iff_ne]
            intro e
            exact hxy (UInt16.toNat_inj.1 (by omega))
          obtain rfl : false = r := by
            rw [← hr]; symm
            exact decide_eq_false fun e => hxy (hback e)
          go_wp2_with fail
          go_quiet (fail)
          go_wp2_with fail
          go_ret
          exact ⟨rfl, hE.drewN _⟩
      · obtain rfl : j = n := by omega
        obtain rfl : true = r := by
          rw [← hr]; symm
          rw [List.take_of_length_le (by omega), List.take_of_length_le (by omega)] at htk
          exact decide_eq_true htk
        clear htk
        go_wp2_with fail
        go_ret
        exact ⟨rfl, hE⟩
  · have hb : ((n : Int) != (n2 : Int)) = true := by rw [bne_iff_ne]; omega
    obtain rfl : false = r := by
      rw [← hr]; symm
      exact decide_eq_false fun e => hne (by rw [← hlen, ← hlen2, e])
    go_enter Tryd.func8, Tryd.ntmps8
    go_wp2_with fail
    go_ret
    exact ⟨rfl, Ext.refl _⟩
set_option maxRecDepth 100000 in
set_option maxHeartbeats 1000000 in
theorem same_any (A : Option Addr) (n c : Nat) (l : List Pr) (A2 : Option Addr) (n2 c2 : Nat) (m : List Pr) (w : World) (h : Els ePr w A n c l) (h2 : Els ePr w A2 n2 c2 m) (r : Bool) (hr : decide (l = m) = r) :
    Calls Tryd.prog 11 #[.slice A n c, .slice A2 n2 c2] w fun e w' => e = .returned (.bool r) ∧ Ext w w' := by
  have hlen := h.len
  have hlen2 := h2.len
  have hnc := h.le
  have hcm := h.reach
  by_cases hne : n = n2
  · subst hne
    go_enter Tryd.func11, Tryd.ntmps11
    go_wp2_with fail
    go_loopw [5] (fun i wr => ∃ (j : Nat), j ≤ n ∧ i = .int .i64 j ∧ l.take j = m.take j ∧ Ext w wr) (fun i _ => n - (intOf i).toNat)
    case atStart => exact ⟨0, Nat.zero_le _, rfl, rfl, Ext.refl _⟩
    case round =>
      obtain ⟨j, hj, rfl, htk, hE⟩ := hrel
      by_cases hlt : j < n
      · have hjl : j < l.length := by omega
        have hjm : j < m.length := by omega
        obtain ⟨g, o, rfl, hg, hcell⟩ := (h.ext hE).pr (by omega)
        obtain ⟨g2, o2, rfl, hg2, hcell2⟩ := (h2.ext hE).pr (by omega)
        obtain ⟨hc0, hd0⟩ := hcell j hjl
        obtain ⟨hc1, hd1⟩ := hcell2 j hjm
        have htg := take_grow htk hjl hjm
        have hback : l = m → l[j] = m[j] := fun e => by subst e; rfl
        have HT := hide htk
        generalize l[j] = x at hc0 hd0 htg hback
        generalize m[j] = y at hc1 hd1 htg hback
        have hq := fun w => neq_pair x.1.toNat x.2.toNat y.1.toNat y.2.toNat w
        clear hcell hcell2 htk
        have hlt2 : (j : Int) < (n : Int) := by omega
        by_cases hxy : x = y
        · have hb : (!((x.1.toNat : Int) == (y.1.toNat : Int) && (x.2.toNat : Int) == (y.2.toNat : Int))) = false := by rw [hxy]; simp
          rw [hb] at hq
          go_wp2_with fail
          go_quiet (fail)
          go_wp2_with fail
          go_roundw
          case rel => exact ⟨j + 1, by omega, by go_num, htg hxy, hE.drewN _⟩
          case measure => simp [intOf]; omega
        · have hb : (!((x.1.toNat : Int) == (y.1.toNat : Int) && (x.2.toNat : Int) == (y.2.toNat : Int))) = true := by
            rw [Bool.not_eq_true', Bool.and_eq_false_iff, beq_eq_false_iff_ne, beq_eq_false_iff_ne]
            rcases Decidable.em (x.1 = y.1) with e1 | e1
            · exact .inr fun e => hxy (Prod.ext e1 (UInt16.toNat_inj.1 (by omega)))
            · exact .inl fun e => e1 (UInt16.toNat_inj.1 (by omega))
          rw [hb] at hq
          obtain rfl : false = r := by
            rw [← hr]; symm
            exact decide_eq_false fun e => hxy (hback e)
          go_wp2_with fail
          go_quiet (fail)
          go_wp2_with fail
          go_ret
          exact ⟨rfl, hE.drewN _⟩
      · obtain rfl : j = n := by omega
        obtain rfl : true = r := by
          rw [← hr]; symm
          rw [List.take_of_length_le (by omega), List.take_of_length_le (by omega)] at htk
          exact decide_eq_true htk
        clear htk
        go_wp2_with fail
        go_ret
        exact ⟨rfl, hE⟩
  · have hb : ((n : Int) != (n2 : Int)) = true := by rw [bne_iff_ne]; omega
    obtain rfl : false = r := by
      rw [← hr]; symm
      exact decide_eq_false fun e => hne (by rw [← hlen, ← hlen2, e])
    go_enter Tryd.func11, Tryd.ntmps11
    go_wp2_with fail
    go_ret
    exact ⟨rfl, Ext.refl _⟩
end Go.Proofs.YtiamcdbnhmlhaaaDoor

/- slices.Equal of bytes: the walk. -/
import Derived.Test.YtcdacnhggpfnaaaOctB
import Derived.Deep.RegionWith
import Derived.Deep.QuietTactic
namespace Go.Proofs.Ytcdacnhggpfnaaa
open Go.RowKit
theorem take_grow8 {l m : List UInt8} {j : Nat} (h : l.take j = m.take j) (h1 : j < l.length) (h2 : j < m.length) (e : l[j] = m[j]) : l.take (j + 1) = m.take (j + 1) := by
  rw [List.take_succ_eq_append_getElem h1, List.take_succ_eq_append_getElem h2, h, e]
set_option maxRecDepth 100000 in
set_option maxHeartbeats 1000000 in
theorem equal_any (A : Option Addr) (n c : Nat) (l : List UInt8) (A2 : Option Addr) (n2 c2 : Nat) (m : List UInt8) (w : World) (h : Bytes w A n c l) (h2 : Bytes w A2 n2 c2 m) (r : Bool) (hr : decide (l = m) = r) :
    Calls Try.prog 55 #[.slice A n c, .slice A2 n2 c2] w fun e w' => e = .returned (.bool r) ∧ Ext w w' := by
  have hlen := h.len
  have hlen2 := h2.len
  have hnc := h.le
  have hcm := h.reach
  by_cases hne : n = n2
  · subst hne
    go_enter Try.func55, Try.ntmps55
    go_wp2_with fail
    go_loopw [13] (fun i wr => ∃ (j : Nat), j ≤ n ∧ i = .int .i64 j ∧ l.take j = m.take j ∧ Ext w wr) (fun i _ => n - (intOf i).toNat)
    case atStart => exact ⟨0, Nat.zero_le _, rfl, rfl, Ext.refl _⟩
    case round =>
      obtain ⟨j, hj, rfl, htk, hE⟩ := hrel
      by_cases hlt : j < n
      · have hjl : j < l.length := by omega
        have hjm : j < m.length := by omega
        obtain ⟨⟨g, o, s⟩, rfl, hg, hc0⟩ := (h.ext hE).at_ hlt
        obtain ⟨⟨g2, o2, s2⟩, rfl, hg2, hc1⟩ := (h2.ext hE).at_ hlt
        have htg := take_grow8 htk hjl hjm
        have hback : l = m → l[j] = m[j] := fun e => by subst e; rfl
        have HT := hide htk
        generalize l[j] = x at hc0 htg hback
        generalize m[j] = y at hc1 htg hback
        clear htk
        have hlt2 : (j : Int) < (n : Int) := by omega
        by_cases hxy : x = y
        · have hb : ((x.toNat : Int) != (y.toNat : Int)) = false := by rw [hxy]; simp
          go_wp2_with fail
          go_quiet (fail)
          go_wp2_with fail
          go_roundw
          case rel => exact ⟨j + 1, by omega, by go_num, htg hxy, hE.drewN _⟩
          case measure => simp [intOf]; omega
        · have hb : ((x.toNat : Int) != (y.toNat : Int)) = true := by
            rw [bne_iff_ne]
            intro e
            exact hxy (UInt8.toNat_inj.1 (by omega))
          obtain rfl : false = r := by
            rw [← hr]; symm
            exact decide_eq_false fun e => hxy (hback e)
          go_wp2_with fail
          go_quiet (fail)
          go_wp2_with fail
          go_ret
          exact ⟨rfl, hE.drewN _⟩
      · obtain rfl : j = n := by omega
        obtain rfl : true = r := by
          rw [← hr]; symm
          rw [List.take_of_length_le (by omega), List.take_of_length_le (by omega)] at htk
          exact decide_eq_true htk
        clear htk
        go_wp2_with fail
        go_ret
        exact ⟨rfl, hE⟩
  · have hb : ((n : Int) != (n2 : Int)) = true := by rw [bne_iff_ne]; omega
    obtain rfl : false = r := by
      rw [← hr]; symm
      exact decide_eq_false fun e => hne (by rw [← hlen, ← hlen2, e])
    go_enter Try.func55, Try.ntmps55
    go_wp2_with fail
    go_ret
    exact ⟨rfl, Ext.refl _⟩
end Go.Proofs.Ytcdacnhggpfnaaa

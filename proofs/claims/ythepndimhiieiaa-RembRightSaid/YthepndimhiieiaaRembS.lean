/- The document's Same of rates; Numbers of lists. -/
import Derived.Test.YthepndimhiieiaaRembA
import Derived.Laws.StructEq
namespace Go.Proofs.Ythepndimhiieiaa
open Go.RowKit
def e32 : Enc UInt32 := ⟨fun x => [.int .u32 (x.toNat : Int)], 1, fun _ => rfl, by decide, by intro x u hu; simp at hu; subst hu; rfl⟩
theorem e32_info : (Try.prog.info? 22).map (fun i => (i.zero, i.size, i.bytes)) = some (some (.int .u32 0), 1, 4) := by kernel_rfl
theorem ty32 : Nonempty (Ty Try.prog e32 82 22) := by
  obtain ⟨i0, hi, hz0, hz1, hz2⟩ := info_parts e32_info
  exact ⟨⟨Try.underlying82, i0, _, hi, hz0, hz1, by omega, rfl⟩⟩
theorem Els.u32 {w : World} {A : Option Addr} {n c : Nat} {l : List UInt32} (h : Els e32 w A n c l) (h0 : 0 < n) : ∃ g o, A = some ⟨g, o, none⟩ ∧ g < w.heap.size ∧ ∀ i, ∀ hi : i < l.length, w.cell? ⟨g, o + i, none⟩ = some (.int .u32 (l[i].toNat : Int)) := by
  obtain ⟨g, o, e, hg, hc⟩ := h.addr h0
  exact ⟨g, o, e, hg, fun i hi => by have := hc i 0 (by rw [← h.len]; exact hi) (by decide); rwa [show i * e32.size + 0 = i from Nat.mul_one i] at this⟩
theorem take_grow32 {α : Type} {l m : List α} {j : Nat} (h : l.take j = m.take j) (h1 : j < l.length) (h2 : j < m.length) (e : l[j] = m[j]) : l.take (j + 1) = m.take (j + 1) := by
  rw [List.take_succ_eq_append_getElem h1, List.take_succ_eq_append_getElem h2, h, e]
set_option maxRecDepth 100000 in
set_option maxHeartbeats 1000000 in
theorem rnumbers_any (A : Option Addr) (n c : Nat) (l : List UInt32) (A2 : Option Addr) (n2 c2 : Nat) (m : List UInt32) (w : World) (h : Els e32 w A n c l) (h2 : Els e32 w A2 n2 c2 m) (r : Bool) (hr : decide (l = m) = r) :
    Calls Try.prog 90 #[.slice A n c, .slice A2 n2 c2] w fun e w' => e = .returned (.bool r) ∧ Ext w w' := by
  have hlen := h.len
  have hlen2 := h2.len
  have hnc := h.le
  have hcm := h.reach
  by_cases hne : n = n2
  · subst hne
    go_enter Try.func90, Try.ntmps90
    go_wp2_with fail
    go_loopw [5] (fun i wr => ∃ (j : Nat), j ≤ n ∧ i = .int .i64 j ∧ l.take j = m.take j ∧ Ext w wr) (fun i _ => n - (intOf i).toNat)
    case atStart => exact ⟨0, Nat.zero_le _, rfl, rfl, Ext.refl _⟩
    case round =>
      obtain ⟨j, hj, rfl, htk, hE⟩ := hrel
      by_cases hlt : j < n
      · have hjl : j < l.length := by omega
        have hjm : j < m.length := by omega
        obtain ⟨g, o, rfl, hg, hcell⟩ := (h.ext hE).u32 (by omega)
        obtain ⟨g2, o2, rfl, hg2, hcell2⟩ := (h2.ext hE).u32 (by omega)
        have hc0 := hcell j hjl
        have hc1 := hcell2 j hjm
        have htg := take_grow32 htk hjl hjm
        have hback : l = m → l[j] = m[j] := fun e => by subst e; rfl
        have HT := hide htk
        generalize l[j] = x at hc0 htg hback
        generalize m[j] = y at hc1 htg hback
        clear hcell hcell2 htk
        have hlt2 : (j : Int) < (n : Int) := by omega
        by_cases hxy : x = y
        · have hb : ((x.toNat : Int) != (y.toNat : Int)) = false := by rw [hxy]; simp
          go_wp2_with fail
          go_quiet (fail)
          go_wp2_with fail
          go_roundw
          case rel => exact ⟨j + 1, by omega, by go_num, htg hxy, hE.drewN _⟩
          case measure => simp [intOf]; omega
        · have hb : ((x.toNat : Int) != (y.toNat : Int)) = true := by
            rw [bne_iff_ne]
            intro e
            exact hxy (UInt32.toNat_inj.1 (by omega))
          obtain rfl : false = r := by
            rw [← hr]; symm
            exact decide_eq_false fun e => hxy (hback e)
          go_wp2_with fail
          go_quiet (fail)
          go_wp2_with fail
          go_ret
          exact ⟨rfl, hE.drewN _⟩
      · obtain rfl : j = n := by omega
        obtain rfl : true = r := by
          rw [← hr]; symm
          rw [List.take_of_length_le (by omega), List.take_of_length_le (by omega)] at htk
          exact decide_eq_true htk
        clear htk
        go_wp2_with fail
        go_ret
        exact ⟨rfl, hE⟩
  · have hb : ((n : Int) != (n2 : Int)) = true := by rw [bne_iff_ne]; omega
    obtain rfl : false = r := by
      rw [← hr]; symm
      exact decide_eq_false fun e => hne (by rw [← hlen, ← hlen2, e])
    go_enter Try.func90, Try.ntmps90
    go_wp2_with fail
    go_ret
    exact ⟨rfl, Ext.refl _⟩
set_option maxRecDepth 100000 in
set_option maxHeartbeats 2000000 in
theorem same17 (x : Int) (m : Nat) (A : Option Addr) (n c : Nat) (l : List UInt32) (x2 : Int) (m2 : Nat) (A2 : Option Addr) (n2 c2 : Nat) (l2 : List UInt32) (w : World) (h : Els e32 w A n c l) (h2 : Els e32 w A2 n2 c2 l2) (r : Bool) (hr : decide (x = x2 ∧ m = m2 ∧ l = l2) = r) :
    Calls Try.prog 50 #[.agg #[.int .i64 x, .int .u32 (m : Int), .slice A n c], .agg #[.int .i64 x2, .int .u32 (m2 : Int), .slice A2 n2 c2]] w fun e w' => e = .returned (.bool r) ∧ Ext w w' := by
  by_cases e0 : x = x2
  case neg =>
    have f0 : (x == x2) = false := beq_eq_false_iff_ne.2 e0
    obtain rfl : false = r := by rw [← hr]; symm; exact decide_eq_false fun h => e0 h.1
    clear hr e0
    go_enter Try.func50, Try.ntmps50
    go_wp2_with fail
    go_ret
    exact ⟨rfl, ((Ext.refl _).alloc _).alloc _⟩
  by_cases e1 : m = m2
  case neg =>
    have f0 : (x == x2) = true := beq_iff_eq.2 e0
    have f1 : ((m : Int) == (m2 : Int)) = false := beq_eq_false_iff_ne.2 (by omega)
    obtain rfl : false = r := by rw [← hr]; symm; exact decide_eq_false fun h => e1 h.2.1
    clear hr e0 e1
    go_enter Try.func50, Try.ntmps50
    go_wp2_with fail
    go_ret
    exact ⟨rfl, ((Ext.refl _).alloc _).alloc _⟩
  have f0 : (x == x2) = true := beq_iff_eq.2 e0
  have f1 : ((m : Int) == (m2 : Int)) = true := beq_iff_eq.2 (by omega)
  have hr2 : decide (l = l2) = r := by
    rw [← hr]
    by_cases hl : l = l2
    · rw [decide_eq_true hl, decide_eq_true ⟨e0, e1, hl⟩]
    · rw [decide_eq_false hl, decide_eq_false fun h => hl h.2.2]
  have S := hide (fun W hW1 hW2 => rnumbers_any A n c l A2 n2 c2 l2 W hW1 hW2 r hr2)
  clear hr hr2 e0 e1
  go_enter Try.func50, Try.ntmps50
  go_wp2_with fail
  refine (S.out _ ((h.alloc _).alloc _) ((h2.alloc _).alloc _)).mono ?_
  rintro e w1 ⟨rfl, hE⟩
  go_wp2_with fail
  go_ret
  exact ⟨rfl, (((Ext.refl _).alloc _).alloc _).trans hE⟩
end Go.Proofs.Ythepndimhiieiaa

/- slices.Clone; octet.Join, Part, Set. -/
import Derived.Test.YthepndimhiieiaaConcat
import Derived.Test.YthepndimhiieiaaPut
import Derived.Deep.RegionWith
import Derived.Deep.QuietTactic
namespace Go.Proofs.Ythepndimhiieiaa
open Go.RowKit

set_option maxHeartbeats 400000 in
theorem clone_any (A : Option Addr) (n c : Nat) (l : List UInt8) (w : World) (h : Bytes w A n c l) (hn : n ≤ 70368744177664) :
    Calls Try.prog 71 #[.slice A n c] w fun e w' => ∃ A' c', e = .returned (.slice A' n c') ∧ w'.ownsRow w.heap.size 5 1 (.slice A' n c') n (l.map Bv) ∧ Ext w w' := by
  obtain ⟨i0, hi, hz0, hz1, hz2⟩ := info_parts byte_info
  rcases A with _ | ad
  · have h0 : n = 0 := by
      rcases Nat.eq_zero_or_pos n with h0 | h0
      · exact h0
      · obtain ⟨_, e, _⟩ := h.addr h0
        cases e
    subst h0
    have hl : l = [] := List.eq_nil_of_length_eq_zero h.len
    subst hl
    have hq := fun (W : World) => Lib.run_eql_slice_nil (P := Try.prog) (w := W)
    go_enter Try.func71, Try.ntmps71
    go_wp2
    go_ret
    exact ⟨none, 0, rfl, World.ownsRow_nil _ _ _ _, Ext.refl _⟩
  · have hq := fun (W : World) => Lib.run_eql_slice_nil (P := Try.prog) (w := W)
    go_enter Try.func71, Try.ntmps71
    have ho := World.ownsRow_lit (base := w.heap.size) (e := 5) (size := 1) w #[] 0 (Nat.le_refl _) (by unfold maxLen; omega) rfl
    have h2 := h.alloc (.cells #[] 5)
    go_wp2_with (at_builtin; refine wpList_append_any _ rfl (.tmp 5) (.tmp 6) _ rfl w.heap.size 5 i0 _ 1 1 Try.underlying25 hi hz0 hz1 hz2 rfl (by omega) (.slice (some ⟨w.heap.size, 0, none⟩) 0 0) _ _ rfl ho (w.alloc (.cells #[] 5)).heap.size (some ad) n c _ rfl h2.1 h2.one (by unfold maxLen; omega) (by omega) (by simp) ?_; intro v' w2 hown2 hg2 hat2)
    have hE2 := Ext.appended ((Ext.refl w).alloc _) ho hg2
    rw [Nat.zero_add, show (#[] : Array Value).toList ++ l.map Bv = l.map Bv from rfl] at hown2
    obtain ⟨A3, c3, rfl⟩ := own_form hown2
    go_wp2
    go_ret
    exact ⟨A3, c3, rfl, hown2, hE2⟩

set_option maxHeartbeats 400000 in
theorem join_any (A : Option Addr) (k c : Nat) (ls : List (List UInt8)) (w : World) (h : Slices w A k c ls) (hn : (cat ls).length ≤ 70368744177664) :
    Calls Try.prog 81 #[.slice A k c] w fun e w' => ∃ A' c', e = .returned (.slice A' (cat ls).length c') ∧ w'.ownsRow w.heap.size 5 1 (.slice A' (cat ls).length c') (cat ls).length ((cat ls).map Bv) ∧ Ext w w' := by
  go_enter Try.func81, Try.ntmps81
  go_wp2_with fail
  refine (concat_any A k c ls _ h hn).mono ?_
  rintro e w' ⟨A', c', rfl, hown, hE⟩
  go_wp2
  go_ret
  exact ⟨A', c', rfl, hown, hE⟩
end Go.Proofs.Ythepndimhiieiaa

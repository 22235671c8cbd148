/- slices.Clone; octet.Join, Part, Set. -/
import Derived.Test.YtcdacnhggpfnaaaConcat
import Derived.Test.YtcdacnhggpfnaaaPut
import Derived.Deep.RegionWith
import Derived.Deep.QuietTactic
namespace Go.Proofs.Ytcdacnhggpfnaaa
open Go.RowKit

set_option maxHeartbeats 400000 in
theorem clone_any (A : Option Addr) (n c : Nat) (l : List UInt8) (w : World) (h : Bytes w A n c l) (hn : n ≤ 70368744177664) :
    Calls Try.prog 53 #[.slice A n c] w fun e w' => ∃ A' c', e = .returned (.slice A' n c') ∧ w'.ownsRow w.heap.size 5 1 (.slice A' n c') n (l.map Bv) ∧ Ext w w' := by
  obtain ⟨i0, hi, hz0, hz1, hz2⟩ := info_parts byte_info
  rcases A with _ | ad
  · have h0 : n = 0 := by
      rcases Nat.eq_zero_or_pos n with h0 | h0
      · exact h0
      · obtain ⟨_, e, _⟩ := h.addr h0
        cases e
    subst h0
    have hl : l = [] := List.eq_nil_of_length_eq_zero h.len
    subst hl
    have hq := fun (W : World) => Lib.run_eql_slice_nil (P := Try.prog) (w := W)
    go_enter Try.func53, Try.ntmps53
    go_wp2
    go_ret
    exact ⟨none, 0, rfl, World.ownsRow_nil _ _ _ _, Ext.refl _⟩
  · have hq := fun (W : World) => Lib.run_eql_slice_nil (P := Try.prog) (w := W)
    go_enter Try.func53, Try.ntmps53
    have ho := World.ownsRow_lit (base := w.heap.size) (e := 5) (size := 1) w #[] 0 (Nat.le_refl _) (by unfold maxLen; omega) rfl
    have h2 := h.alloc (.cells #[] 5)
    go_wp2_with (at_builtin; refine wpList_append_any _ rfl (.tmp 5) (.tmp 6) _ rfl w.heap.size 5 i0 _ 1 1 Try.underlying22 hi hz0 hz1 hz2 rfl (by omega) (.slice (some ⟨w.heap.size, 0, none⟩) 0 0) _ _ rfl ho (w.alloc (.cells #[] 5)).heap.size (some ad) n c _ rfl h2.1 h2.one (by unfold maxLen; omega) (by omega) (by simp) ?_; intro v' w2 hown2 hg2 hat2)
    have hE2 := Ext.appended ((Ext.refl w).alloc _) ho hg2
    rw [Nat.zero_add, show (#[] : Array Value).toList ++ l.map Bv = l.map Bv from rfl] at hown2
    obtain ⟨A3, c3, rfl⟩ := own_form hown2
    go_wp2
    go_ret
    exact ⟨A3, c3, rfl, hown2, hE2⟩

set_option maxHeartbeats 400000 in
theorem part_arg (A : Option Addr) (len c : Nat) (at_ n : Int) (w : World) (h : n < 0 ∨ at_ < 0) :
    Calls Try.prog 86 #[.slice A len c, .int .i64 at_, .int .i64 n] w fun e w' => e = .returned (.tuple #[.slice none 0 0, .int .i64 1]) ∧ w = w' := by
  by_cases h0 : n < 0
  · go_enter Try.func86, Try.ntmps86
    go_wp2_with fail
    go_ret2
    exact ⟨rfl, rfl⟩
  · have h1 : at_ < 0 := by omega
    go_enter Try.func86, Try.ntmps86
    go_wp2_with fail
    go_ret2
    exact ⟨rfl, rfl⟩
set_option maxHeartbeats 400000 in
theorem part_short (A : Option Addr) (len c : Nat) (at_ n : Int) (w : World) (hc : len ≤ c) (hr : c ≤ 9223372036854775807) (h1 : 0 ≤ n) (h3 : 0 ≤ at_) (h4 : len < at_ + n) :
    Calls Try.prog 86 #[.slice A len c, .int .i64 at_, .int .i64 n] w fun e w' => e = .returned (.tuple #[.slice none 0 0, .int .i64 2]) ∧ w = w' := by
  go_enter Try.func86, Try.ntmps86
  go_wp2_with (go_at_call 89; refine (there_no _ _ _ _ _ _ hc hr h3 h4).mono ?_; rintro e w' ⟨rfl, rfl⟩)
  go_ret2
  exact ⟨rfl, rfl⟩
set_option maxHeartbeats 400000 in
theorem part_ok (A : Option Addr) (len c : Nat) (l : List UInt8) (at_ n : Nat) (w : World) (hb : Bytes w A len c l) (h4 : at_ + n ≤ len) (hl : len ≤ 70368744177664) :
    Calls Try.prog 86 #[.slice A len c, .int .i64 at_, .int .i64 n] w fun e w' => ∃ A' c', e = .returned (.tuple #[.slice A' n c', .int .i64 0]) ∧ w'.ownsRow w.heap.size 5 1 (.slice A' n c') n (((l.drop at_).take n).map Bv) ∧ Ext w w' := by
  have hc := hb.le
  have hr := hb.reach
  by_cases he : c = at_
  · obtain rfl : n = 0 := by omega
    obtain rfl : len = c := by omega
    subst he
    have hb2 := (hb.subIf (lo := len) (hi := len + 0) (by omega) (by omega))
    rw [if_pos rfl, Nat.add_zero, Nat.sub_self] at hb2
    go_enter Try.func86, Try.ntmps86
    go_wp2_with (go_at_call 89; refine (there_yes _ _ _ _ _ _ hc hr (by omega) (by omega) (by omega)).mono ?_; rintro e w' ⟨rfl, rfl⟩)
    refine (clone_any _ _ _ _ _ hb2 (by omega)).mono ?_
    rintro e w' ⟨A', c', rfl, hown, hE⟩
    go_wp2
    go_ret2
    exact ⟨A', c', rfl, hown, hE⟩
  · have hb2 := (hb.sub (lo := at_) (hi := at_ + n) (by omega) (by omega))
    rw [show at_ + n - at_ = n by omega] at hb2
    go_enter Try.func86, Try.ntmps86
    go_wp2_with (first | (go_at_call 89; refine (there_yes _ _ _ _ _ _ hc hr (by omega) (by omega) (by omega)).mono ?_; rintro e w' ⟨rfl, rfl⟩) | (go_at_call 53; refine (clone_any _ _ _ _ _ hb2 (by omega)).mono ?_; rintro e w' ⟨A', c', rfl, hown, hE⟩))
    go_ret2
    exact ⟨A', c', rfl, hown, hE⟩
set_option maxHeartbeats 400000 in
theorem join_any (A : Option Addr) (k c : Nat) (ls : List (List UInt8)) (w : World) (h : Slices w A k c ls) (hn : (cat ls).length ≤ 70368744177664) :
    Calls Try.prog 64 #[.slice A k c] w fun e w' => ∃ A' c', e = .returned (.slice A' (cat ls).length c') ∧ w'.ownsRow w.heap.size 5 1 (.slice A' (cat ls).length c') (cat ls).length ((cat ls).map Bv) ∧ Ext w w' := by
  go_enter Try.func64, Try.ntmps64
  go_wp2_with fail
  refine (concat_any A k c ls _ h hn).mono ?_
  rintro e w' ⟨A', c', rfl, hown, hE⟩
  go_wp2
  go_ret
  exact ⟨A', c', rfl, hown, hE⟩
end Go.Proofs.Ytcdacnhggpfnaaa

/- slices.Grow of nil, slices.Concat, slices.Clone over bytes. -/
import Derived.Lib.AppendZeros
import Derived.Test.YtcdacnhggpfnaaaOctet
import Derived.Test.YtcdacnhggpfnaaaAppend
import Derived.Test.YtcdacnhggpfnaaaPlain
import Derived.Test.YtcdacnhggpfnaaaBytes
namespace Go.Proofs.Ytcdacnhggpfnaaa
open Go.RowKit

/-- The room that Grow makes: a row of which nothing is taken yet. -/
theorem grow_zero (w : World) : Calls Try.prog 88 #[.slice none 0 0, .int .i64 0] w fun e w' => e = .returned (.slice none 0 0) ∧ w = w' := by
  go_enter Try.func88, Try.ntmps88
  go_wp2
  go_ret
  exact ⟨rfl, rfl⟩
set_option maxHeartbeats 400000 in
set_option maxRecDepth 100000 in
theorem grow_pos (n : Nat) (w : World) (h0 : 0 < n) (hn : n ≤ 140737488355328) : Calls Try.prog 88 #[.slice none 0 0, .int .i64 n] w fun e w' =>
    ∃ A c, e = .returned (.slice A 0 c) ∧ w'.ownsRow w.heap.size 5 1 (.slice A 0 c) 0 [] ∧ Ext w w' := by
  obtain ⟨i0, hi, hz0, hz1, hz2⟩ := info_parts byte_info
  have hr := fun W : World => Lib.run_append_nil_zeros (P := Try.prog) W 22 3 22 5 i0 _ .i64 .i64 Try.underlying22 Try.underlying3 hi hz0 n h0 (by omega) (by omega) (by rw [hz2]; omega)
  go_enter Try.func88, Try.ntmps88
  go_wp2_with (at_builtin; refine Lib.wpList_append_run _ rfl _ _ _ _ rfl _ _ rfl rfl _ _ (hr _) ?_)
  go_ret
  have h1 := grownCap_ge w n 0 5
  have h2 := grownCap_le_maxLen w n 0 5 (by unfold maxLen; omega)
  exact ⟨_, _, rfl, ((World.ownsRow_made w _ (grownCap w n 0 5) (Nat.le_refl _) h2 (by simp [size_zeroCells]; omega)) : _), ((Ext.refl w).alloc _).drew⟩

set_option maxHeartbeats 1000000 in
set_option maxRecDepth 100000 in
theorem concat_any (A : Option Addr) (k c : Nat) (ls : List (List UInt8)) (w : World) (h : Slices w A k c ls) (hn : (cat ls).length ≤ 70368744177664) :
    Calls Try.prog 82 #[.slice A k c] w fun e w' => ∃ A' c', e = .returned (.slice A' (cat ls).length c') ∧ w'.ownsRow w.heap.size 5 1 (.slice A' (cat ls).length c') (cat ls).length ((cat ls).map Bv) ∧ Ext w w' := by
  obtain ⟨i0, hi, hz0, hz1, hz2⟩ := info_parts byte_info
  have hkc := h.2.1
  have hcm := h.2.2.1
  have hlen := h.len
  go_enter Try.func82, Try.ntmps82
  go_wp2_with fail
  go_loop [3, 11] (fun s i => ∃ j : Nat, j ≤ k ∧ i = .int .i64 j ∧ s = .int .i64 ((cat (ls.take j)).length : Int)) (fun _ i => k - (intOf i).toNat)
  case atStart => exact ⟨0, Nat.zero_le _, rfl, rfl⟩
  case round =>
    obtain ⟨j, hj, rfl, rfl⟩ := hrel
    by_cases hlt : j < k
    · obtain ⟨ad, Ai, ni, ci, rfl, hb, hcell, hB⟩ := h.2.2.2 j (by omega)
      have hl := cat_le ls (j + 1)
      have hs := cat_snoc ls j (by omega)
      rw [hs, List.length_append, hB.len] at hl
      have HS := hide hs
      have HL := hide hB.len
      clear hs
      go_wp2
      go_round
      case rel => exact ⟨j + 1, by omega, by go_num, by rw [HS.out, List.length_append, HL.out]; rfl⟩
      case measure => simp [intOf]; omega
    · obtain rfl : j = k := by omega
      rw [cat_all ls j (by omega)]
      have hgrow : ∀ W : World, Calls Try.prog 88 #[.slice none 0 0, .int .i64 ((cat ls).length : Int)] W fun e w' =>
          ∃ A c, e = .returned (.slice A 0 c) ∧ w'.ownsRow W.heap.size 5 1 (.slice A 0 c) 0 [] ∧ Ext W w' := by
        intro W
        by_cases h0 : (cat ls).length = 0
        · rw [h0]
          exact (grow_zero W).mono fun e w' ⟨he, hw⟩ => ⟨_, _, he, World.ownsRow_nil _ _ _ _, by rw [hw]; exact Ext.refl _⟩
        · exact grow_pos _ W (by omega) (by omega)
      have HG := hide hgrow
      clear hgrow
      go_wp2_with fail
      refine (HG.out _).mono ?_
      rintro e w1 ⟨A1, c1, rfl, hown1, hE1⟩
      go_wp2_with fail
      have hls := hide hlen
      clear hlen
      go_loopw [6, 27] (fun v i wr => ∃ m : Nat, m ≤ j ∧ i = .int .i64 m ∧ (∃ A2 c2, v = .slice A2 (cat (ls.take m)).length c2 ∧ wr.ownsRow w.heap.size 5 1 (.slice A2 (cat (ls.take m)).length c2) (cat (ls.take m)).length ((cat (ls.take m)).map Bv)) ∧ Ext w wr) (fun _ i _ => j - (intOf i).toNat)
      case atStart => exact ⟨0, Nat.zero_le _, rfl, ⟨A1, c1, rfl, hown1⟩, hE1⟩
      case round =>
        obtain ⟨m, hm, rfl, ⟨A2, c2, rfl, hown⟩, hE⟩ := hrel
        by_cases hlt2 : m < j
        · obtain ⟨ad, Ai, ni, ci, rfl, hb, hcell, hB⟩ := (h.ext hE).2.2.2 m (by rw [hls.out]; omega)
          have hl := cat_le ls (m + 1)
          have hs := cat_snoc ls m (by rw [hls.out]; omega)
          rw [hs, List.length_append, hB.len] at hl
          have HS := hide hs
          have HL := hide hB.len
          clear hs
          go_wp2_with (at_builtin; refine wpList_append_any _ rfl (.tmp 31) (.tmp 32) _ rfl w.heap.size 5 i0 _ 1 1 Try.underlying22 hi hz0 hz1 hz2 rfl (by omega) (.slice A2 (cat (ls.take m)).length c2) _ _ rfl hown wr.heap.size Ai ni ci _ rfl hB.1 hB.one (by unfold maxLen; omega) (by omega) hE.size ?_; intro v' w2 hown2 hg2 hat2)
          have hE2 := hE.appended hown hg2
          obtain ⟨A3, c3, rfl⟩ := own_form hown2
          rw [← List.map_append, ← HS.out, show (cat (ls.take m)).length + ni = (cat (ls.take (m + 1))).length by rw [HS.out, List.length_append, HL.out]] at hown2
          rw [show (cat (ls.take m)).length + ni = (cat (ls.take (m + 1))).length by rw [HS.out, List.length_append, HL.out]]
          clear hat2 hg2 hown hcell hB
          go_wp2
          go_roundw
          case rel => exact ⟨m + 1, by omega, by go_num, ⟨A3, c3, rfl, hown2⟩, hE2⟩
          case measure => simp [intOf]; omega
        · obtain rfl : m = j := by omega
          rw [cat_all ls m (by rw [hls.out]; exact Nat.le_refl _)] at hown ⊢
          go_wp2
          go_ret
          exact ⟨A2, c2, rfl, hown, hE⟩
end Go.Proofs.Ytcdacnhggpfnaaa

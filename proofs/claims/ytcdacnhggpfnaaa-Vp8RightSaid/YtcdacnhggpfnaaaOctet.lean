/- The leaves of package octet: what each call computes. -/
import Derived.Test.YtcdacnhggpfnaaaChecked
import Derived.Test.YtcdacnhggpfnaaaWords
import Derived.Test.YtcdacnhggpfnaaaPlain
import Derived.WalkKit
import Derived.WalkSpells
import Derived.WalkLawsBesides
import Derived.BigQuiet
namespace Go.Proofs.Ytcdacnhggpfnaaa
open Go.RowKit

set_option maxHeartbeats 400000 in
theorem sized_yes (n : Int) (w : World) (h1 : 1 ≤ n) (h2 : n ≤ 8) : Calls Try.prog 75 #[.int .i64 n] w fun e w' => e = .returned (.bool true) ∧ w = w' := by
  go_enter Try.func75, Try.ntmps75
  go_wp2
  go_ret
  exact ⟨rfl, rfl⟩
set_option maxHeartbeats 400000 in
theorem sized_no (n : Int) (w : World) (h1 : n < 1 ∨ 8 < n) : Calls Try.prog 75 #[.int .i64 n] w fun e w' => e = .returned (.bool false) ∧ w = w' := by
  rcases h1 with h1 | h1
  · go_enter Try.func75, Try.ntmps75
    go_wp2
    go_ret
    exact ⟨rfl, rfl⟩
  · have h0 : 1 ≤ n := by omega
    go_enter Try.func75, Try.ntmps75
    go_wp2
    go_ret
    exact ⟨by simp; omega, rfl⟩
set_option maxHeartbeats 400000 in
theorem there_yes (A : Option Addr) (l c : Nat) (at_ n : Int) (w : World) (hc : l ≤ c) (hr : c ≤ 9223372036854775807) (h0 : 0 ≤ at_) (h1 : at_ + n ≤ l) (h2 : 0 ≤ n) :
    Calls Try.prog 89 #[.slice A l c, .int .i64 at_, .int .i64 n] w fun e w' => e = .returned (.bool true) ∧ w = w' := by
  have h3 : at_ ≤ l := by omega
  go_enter Try.func89, Try.ntmps89
  go_wp2
  go_ret
  exact ⟨by simp; omega, rfl⟩
set_option maxHeartbeats 400000 in
theorem there_no (A : Option Addr) (l c : Nat) (at_ n : Int) (w : World) (hc : l ≤ c) (hr : c ≤ 9223372036854775807) (h0 : 0 ≤ at_) (h1 : l < at_ + n) :
    Calls Try.prog 89 #[.slice A l c, .int .i64 at_, .int .i64 n] w fun e w' => e = .returned (.bool false) ∧ w = w' := by
  by_cases h3 : at_ ≤ l
  · go_enter Try.func89, Try.ntmps89
    go_wp2
    go_ret
    exact ⟨by simp; omega, rfl⟩
  · go_enter Try.func89, Try.ntmps89
    go_wp2
    go_ret
    exact ⟨rfl, rfl⟩


set_option maxHeartbeats 400000 in
theorem get_arg (A : Option Addr) (len c : Nat) (at_ n : Int) (w : World) (h : n < 1 ∨ 8 < n ∨ at_ < 0) :
    Calls Try.prog 83 #[.slice A len c, .int .i64 at_, .int .i64 n] w fun e w' => e = .returned (.tuple #[.int .u64 0, .int .i64 1]) ∧ w = w' := by
  by_cases hs : 1 ≤ n ∧ n ≤ 8
  · have h0 : at_ < 0 := by omega
    go_enter Try.func83, Try.ntmps83
    go_wp2_with (go_at_call 75; refine (sized_yes _ _ hs.1 hs.2).mono ?_; rintro e w' ⟨rfl, rfl⟩)
    go_ret2
    exact ⟨rfl, rfl⟩
  · go_enter Try.func83, Try.ntmps83
    go_wp2_with (go_at_call 75; refine (sized_no _ _ (by omega)).mono ?_; rintro e w' ⟨rfl, rfl⟩)
    go_ret2
    exact ⟨rfl, rfl⟩
set_option maxHeartbeats 400000 in
theorem get_short (A : Option Addr) (len c : Nat) (at_ n : Int) (w : World) (hc : len ≤ c) (hr : c ≤ 9223372036854775807) (h1 : 1 ≤ n) (h2 : n ≤ 8) (h3 : 0 ≤ at_) (h4 : len < at_ + n) :
    Calls Try.prog 83 #[.slice A len c, .int .i64 at_, .int .i64 n] w fun e w' => e = .returned (.tuple #[.int .u64 0, .int .i64 2]) ∧ w = w' := by
  go_enter Try.func83, Try.ntmps83
  go_wp2_with (first | (go_at_call 75; refine (sized_yes _ _ h1 h2).mono ?_; rintro e w' ⟨rfl, rfl⟩) | (go_at_call 89; refine (there_no _ _ _ _ _ _ hc hr h3 h4).mono ?_; rintro e w' ⟨rfl, rfl⟩))
  go_ret2
  exact ⟨rfl, rfl⟩
set_option maxHeartbeats 400000 in
theorem get_ok (A : Option Addr) (len c : Nat) (l : List UInt8) (at_ n : Nat) (w : World) (hb : Bytes w A len c l) (h1 : 1 ≤ n) (h2 : n ≤ 8) (h4 : at_ + n ≤ len) :
    Calls Try.prog 83 #[.slice A len c, .int .i64 at_, .int .i64 n] w fun e w' => e = .returned (.tuple #[.int .u64 (val ((l.drop at_).take n)), .int .i64 0]) ∧ w = w' := by
  have hc := hb.le
  have hr := hb.reach
  have hlen := hb.len
  go_enter Try.func83, Try.ntmps83
  go_wp2_with (first | (go_at_call 75; refine (sized_yes _ _ (by omega) (by omega)).mono ?_; rintro e w' ⟨rfl, rfl⟩) | (go_at_call 89; refine (there_yes _ _ _ _ _ _ hc hr (by omega) (by omega) (by omega)).mono ?_; rintro e w' ⟨rfl, rfl⟩))
  have hb2 := hb.sub (lo := at_) (hi := at_ + n) (by omega) (by omega)
  rw [show at_ + n - at_ = n by omega] at hb2 ⊢
  generalize Option.map (fun x => x.add at_) A = A2 at hb2 ⊢
  obtain ⟨l2, hl2⟩ : ∃ l2, (l.drop at_).take n = l2 := ⟨_, rfl⟩
  rw [hl2] at hb2
  have HL := hide hl2
  clear hl2
  go_loop [8, 30] (fun v i => ∃ k : Nat, k ≤ n ∧ i = .int .i64 k ∧ v = .int .u64 (val (l2.take k))) (fun _ i => n - (intOf i).toNat)
  case atStart => exact ⟨0, Nat.zero_le _, rfl, rfl⟩
  case round =>
    obtain ⟨k, hk, rfl, rfl⟩ := hrel
    by_cases hlt : k < n
    · obtain ⟨ad, rfl, _⟩ := hb2.addr (by omega)
      have hcell := hb2.cell hlt
      go_wp2
      go_round
      case rel => exact ⟨k + 1, by omega, by go_num, by rw [val_take_succ _ _ (by rw [hb2.len]; exact hlt), or_step _ _ (val_take_lt (by omega)) (UInt8.toNat_lt _)]⟩
      case measure => simp [intOf]; omega
    · obtain rfl : k = n := by omega
      go_wp2
      go_ret2
      exact ⟨by rw [HL.out, ← hb2.len, List.take_length]; rfl, rfl⟩
end Go.Proofs.Ytcdacnhggpfnaaa

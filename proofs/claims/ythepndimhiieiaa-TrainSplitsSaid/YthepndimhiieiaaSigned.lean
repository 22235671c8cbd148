/- octet.Signed, PutSigned; a slice of bytes as a string. -/
import Derived.Test.YthepndimhiieiaaSet
import Derived.Test.YthepndimhiieiaaStr
namespace Go.Proofs.Ythepndimhiieiaa
open Go.RowKit

set_option maxHeartbeats 400000 in
theorem signed_ok (A : Option Addr) (len c : Nat) (l : List UInt8) (at_ n : Nat) (w : World) (hb : Bytes w A len c l) (h1 : 1 ≤ n) (h2 : n ≤ 8) (h4 : at_ + n ≤ len) :
    Calls Try.prog 96 #[.slice A len c, .int .i64 at_, .int .i64 n] w fun e w' => e = .returned (.tuple #[.int .i64 (sval n (val ((l.drop at_).take n))), .int .i64 0]) ∧ w = w' := by
  have hv : val ((l.drop at_).take n) < 256 ^ n := by
    have h := val_lt ((l.drop at_).take n)
    have hl : ((l.drop at_).take n).length = n := by rw [List.length_take, List.length_drop, hb.len]; omega
    rwa [hl] at h
  have HV := hide (signed_eq n _ h1 h2 hv)
  clear hv
  go_enter Try.func96, Try.ntmps96
  go_wp2_with (go_at_call 89; refine (get_ok _ _ _ _ _ _ _ hb h1 h2 h4).mono ?_; rintro e w' ⟨rfl, rfl⟩)
  go_ret2
  exact ⟨by rw [← HV.out]; rfl, rfl⟩
set_option maxHeartbeats 400000 in
theorem signed_arg (A : Option Addr) (len c : Nat) (at_ n : Int) (w : World) (h : n < 1 ∨ 8 < n ∨ at_ < 0) :
    Calls Try.prog 96 #[.slice A len c, .int .i64 at_, .int .i64 n] w fun e w' => e = .returned (.tuple #[.int .i64 0, .int .i64 1]) ∧ w = w' := by
  go_enter Try.func96, Try.ntmps96
  go_wp2_with (go_at_call 89; refine (get_arg _ _ _ _ _ _ h).mono ?_; rintro e w' ⟨rfl, rfl⟩)
  go_ret2
  exact ⟨rfl, rfl⟩
set_option maxHeartbeats 400000 in
theorem signed_short (A : Option Addr) (len c : Nat) (at_ n : Int) (w : World) (hc : len ≤ c) (hr : c ≤ 9223372036854775807) (h1 : 1 ≤ n) (h2 : n ≤ 8) (h3 : 0 ≤ at_) (h4 : len < at_ + n) :
    Calls Try.prog 96 #[.slice A len c, .int .i64 at_, .int .i64 n] w fun e w' => e = .returned (.tuple #[.int .i64 0, .int .i64 2]) ∧ w = w' := by
  go_enter Try.func96, Try.ntmps96
  go_wp2_with (go_at_call 89; refine (get_short _ _ _ _ _ _ hc hr h1 h2 h3 h4).mono ?_; rintro e w' ⟨rfl, rfl⟩)
  go_ret2
  exact ⟨rfl, rfl⟩
set_option maxHeartbeats 400000 in
theorem psigned_arg (v : Int) (n : Int) (w : World) (h : n < 1 ∨ 8 < n) :
    Calls Try.prog 65 #[.int .i64 v, .int .i64 n] w fun e w' => e = .returned (.tuple #[.slice none 0 0, .int .i64 1]) ∧ Ext w w' := by
  go_enter Try.func65, Try.ntmps65
  go_wp2_with (go_at_call 93; refine (sized_no _ _ h).mono ?_; rintro e w' ⟨rfl, rfl⟩)
  go_ret2
  exact ⟨rfl, Ext.refl _⟩
set_option maxHeartbeats 400000 in
theorem psigned_field (v : Int) (n : Nat) (w : World) (h1 : 1 ≤ n) (h2 : n ≤ 8) (h3 : -9223372036854775808 ≤ v) (h4 : v ≤ 9223372036854775807) (hv : ¬ sfits n v) :
    Calls Try.prog 65 #[.int .i64 v, .int .i64 n] w fun e w' => e = .returned (.tuple #[.slice none 0 0, .int .i64 6]) ∧ Ext w w' := by
  have hz := sfits_no n v h1 h2 h3 h4 hv
  clear hv h3 h4
  go_enter Try.func65, Try.ntmps65
  go_wp2_with (go_at_call 93; refine (sized_yes _ _ (by omega) (by omega)).mono ?_; rintro e w' ⟨rfl, rfl⟩)
  go_ret2
  exact ⟨rfl, Ext.refl _⟩
set_option maxHeartbeats 400000 in
theorem psigned_ok (v : Int) (n : Nat) (w : World) (h1 : 1 ≤ n) (h2 : n ≤ 8) (hv : sfits n v) :
    Calls Try.prog 65 #[.int .i64 v, .int .i64 n] w fun e w' => ∃ A c, e = .returned (.tuple #[.slice A n c, .int .i64 0]) ∧ w'.ownsRow w.heap.size 5 1 (.slice A n c) n ((be n (suns n v)).map Bv) ∧ Ext w w' := by
  have hz := sfits_yes n v h1 h2 hv
  have HS := hide (suns_eq n v h1 h2)
  clear hv
  go_enter Try.func65, Try.ntmps65
  go_wp2_with (go_at_call 93; refine (sized_yes _ _ (by omega) (by omega)).mono ?_; rintro e w' ⟨rfl, rfl⟩)
  rw [HS.out]
  refine (put_ok _ _ _ h1 h2 (suns_lt n v h1 h2)).mono ?_
  rintro e w' ⟨A, c, rfl, hown, hE⟩
  go_wp2
  go_ret2
  exact ⟨A, c, rfl, hown, hE⟩

end Go.Proofs.Ythepndimhiieiaa

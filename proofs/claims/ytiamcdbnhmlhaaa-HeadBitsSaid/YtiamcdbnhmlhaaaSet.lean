/- octet.Set. -/
import Derived.Deep.RegionHeld3
import Derived.Test.YtiamcdbnhmlhaaaClone
namespace Go.Proofs.Ytiamcdbnhmlhaaa
open Go.RowKit


set_option maxHeartbeats 400000 in
theorem set_put_arg (A : Option Addr) (len c : Nat) (at_ n : Int) (v : Nat) (w : World) (h : n < 1 ∨ 8 < n) :
    Calls Try.prog 12 #[.slice A len c, .int .i64 at_, .int .i64 n, .int .u64 v] w fun e w' => e = .returned (.tuple #[.slice none 0 0, .int .i64 1]) ∧ Ext w w' := by
  go_enter Try.func12, Try.ntmps12
  go_wp2_with (go_at_call 23; refine (put_arg _ _ _ h).mono ?_; rintro e w' ⟨rfl, hE⟩)
  go_ret2
  exact ⟨rfl, hE⟩
set_option maxHeartbeats 400000 in
theorem set_put_field (A : Option Addr) (len c : Nat) (at_ : Int) (n : Nat) (v : Nat) (w : World) (h : 1 ≤ n) (h1 : n < 8) (hv : 256 ^ n ≤ v) :
    Calls Try.prog 12 #[.slice A len c, .int .i64 at_, .int .i64 n, .int .u64 v] w fun e w' => e = .returned (.tuple #[.slice none 0 0, .int .i64 6]) ∧ Ext w w' := by
  go_enter Try.func12, Try.ntmps12
  go_wp2_with (go_at_call 23; refine (put_field _ _ _ h h1 hv).mono ?_; rintro e w' ⟨rfl, hE⟩)
  go_ret2
  exact ⟨rfl, hE⟩
set_option maxHeartbeats 400000 in
theorem set_arg (A : Option Addr) (len c : Nat) (at_ : Int) (n : Nat) (v : Nat) (w : World) (h : 1 ≤ n) (h1 : n ≤ 8) (hv : v < 256 ^ n) (h0 : at_ < 0) :
    Calls Try.prog 12 #[.slice A len c, .int .i64 at_, .int .i64 n, .int .u64 v] w fun e w' => e = .returned (.tuple #[.slice none 0 0, .int .i64 1]) ∧ Ext w w' := by
  go_enter Try.func12, Try.ntmps12
  go_wp2_with (go_at_call 23; refine (put_ok _ _ _ h h1 hv).mono ?_; rintro e w' ⟨A', c', rfl, hown, hE⟩)
  go_ret2
  exact ⟨rfl, hE⟩
set_option maxHeartbeats 400000 in
theorem set_short (A : Option Addr) (len c : Nat) (at_ : Int) (n : Nat) (v : Nat) (w : World) (hc : len ≤ c) (hr : c ≤ 9223372036854775807) (h : 1 ≤ n) (h1 : n ≤ 8) (hv : v < 256 ^ n) (h0 : 0 ≤ at_) (h4 : len < at_ + n) :
    Calls Try.prog 12 #[.slice A len c, .int .i64 at_, .int .i64 n, .int .u64 v] w fun e w' => e = .returned (.tuple #[.slice none 0 0, .int .i64 2]) ∧ Ext w w' := by
  go_enter Try.func12, Try.ntmps12
  go_wp2_with (first | (go_at_call 23; refine (put_ok _ _ _ h h1 hv).mono ?_; rintro e w' ⟨A', c', rfl, hown, hE⟩) | (go_at_call 35; refine (there_no _ _ _ _ _ _ hc hr h0 h4).mono ?_; rintro e w' ⟨rfl, rfl⟩))
  go_ret2
  exact ⟨rfl, hE⟩
set_option maxHeartbeats 1000000 in
theorem set_ok (A : Option Addr) (len c : Nat) (l : List UInt8) (at_ n : Nat) (v : Nat) (w : World) (hb : Bytes w A len c l) (hl : len ≤ 35184372088832) (h : 1 ≤ n) (h1 : n ≤ 8) (hv : v < 256 ^ n) (h4 : at_ + n ≤ len) :
    Calls Try.prog 12 #[.slice A len c, .int .i64 at_, .int .i64 n, .int .u64 v] w fun e w' => ∃ A' c', e = .returned (.tuple #[.slice A' len c', .int .i64 0]) ∧
      w'.ownsRow w.heap.size 5 1 (.slice A' len c') len ((l.take at_ ++ be n v ++ l.drop (at_ + n)).map Bv) ∧ Ext w w' := by
  have hc := hb.le
  have hr := hb.reach
  have hcat : cat [l.take at_, be n v, l.drop (at_ + n)] = l.take at_ ++ be n v ++ l.drop (at_ + n) := by simp [cat]
  have hlen : (cat [l.take at_, be n v, l.drop (at_ + n)]).length = len := by
    rw [hcat]
    simp [be_length, hb.len]
    omega
  have HC := hide hcat
  have HL := hide hlen
  clear hcat hlen
  have hb1 := hb.take (m := at_) (by omega)
  by_cases he : c = at_ + n
  · obtain rfl : len = c := by omega
    have hb3 := hb.dropIf (k := at_ + n) (by omega)
    rw [if_pos he, show len - (at_ + n) = 0 by omega] at hb3
    subst he
    go_enter Try.func12, Try.ntmps12
    go_wp2_with (first | (go_at_call 23; refine (put_ok _ _ _ h h1 hv).mono ?_; rintro e w' ⟨A', c', rfl, hown, hE⟩) | (go_at_call 35; refine (there_yes _ _ _ _ _ _ hc hr (by omega) (by omega) (by omega)).mono ?_; rintro e w' ⟨rfl, rfl⟩))
    have hS := (Slices.lit 22 3 rfl (by omega) (show AllB w' [.slice A at_ (at_ + n), .slice A' n c', .slice A 0 0] [l.take at_, be n v, l.drop (at_ + n)] from ⟨hb1.ext hE, Bytes.own hown, hb3.ext hE, trivial⟩)).drew
    clear hown
    have HB : (cat [l.take at_, be n v, l.drop (at_ + n)]).length ≤ 70368744177664 := by rw [HL.out]; omega
    have e7 : (at_ : Int) ≤ (at_ : Int) + (n : Int) := by omega
    have e1 : (0 : Int) ≤ (at_ : Int) := by omega
    have e2 : (at_ : Int) ≤ ((at_ + n : Nat) : Int) := by omega
    have e4 : (0 : Int) ≤ (at_ : Int) + (n : Int) := by omega
    have e5 : (at_ : Int) + (n : Int) ≤ ((at_ + n : Nat) : Int) := by omega
    have e6 : ((at_ : Int) + (n : Int)).toNat = at_ + n := by omega
    have e3 : IntKind.i64.wrap ((at_ : Int) + (n : Int)) = (at_ : Int) + (n : Int) := IntWalk.i64_in _ (by omega)
    go_region_held3 (fun _ => True) (exact trivial) ((go_at_call 36; refine (concat_any _ _ _ _ _ hS HB).mono ?_; rw [HL.out, HC.out]; rintro e w2 ⟨A2, c2, rfl, hown2, hE2⟩))
    clear e1 e2 e3 e4 e5 e6 e7
    go_wp2
    go_ret2
    exact ⟨A2, c2, rfl, own_more hown2 (by have := hE.size; simp; omega), ((hE.alloc _).drew).trans hE2⟩
  · have hb3 := hb.drop (k := at_ + n) (by omega)
    go_enter Try.func12, Try.ntmps12
    go_wp2_with (first | (go_at_call 23; refine (put_ok _ _ _ h h1 hv).mono ?_; rintro e w' ⟨A', c', rfl, hown, hE⟩) | (go_at_call 35; refine (there_yes _ _ _ _ _ _ hc hr (by omega) (by omega) (by omega)).mono ?_; rintro e w' ⟨rfl, rfl⟩))
    have hS := (Slices.lit 22 3 rfl (by omega) (show AllB w' [.slice A at_ c, .slice A' n c', .slice (A.map (fun x => x.add (at_ + n))) (len - (at_ + n)) (c - (at_ + n))] [l.take at_, be n v, l.drop (at_ + n)] from ⟨hb1.ext hE, Bytes.own hown, hb3.ext hE, trivial⟩)).drew
    clear hown
    have HB : (cat [l.take at_, be n v, l.drop (at_ + n)]).length ≤ 70368744177664 := by rw [HL.out]; omega
    have e7 : at_ ≤ c := by omega
    have e1 : (0 : Int) ≤ (at_ : Int) := by omega
    have e2 : (at_ : Int) ≤ (len : Int) := by omega
    have e4 : (0 : Int) ≤ (at_ : Int) + (n : Int) := by omega
    have e5 : (at_ : Int) + (n : Int) ≤ (len : Int) := by omega
    have e6 : ((at_ : Int) + (n : Int)).toNat = at_ + n := by omega
    have e3 : IntKind.i64.wrap ((at_ : Int) + (n : Int)) = (at_ : Int) + (n : Int) := IntWalk.i64_in _ (by omega)
    go_region_held3 (fun _ => True) (exact trivial) ((go_at_call 36; refine (concat_any _ _ _ _ _ hS HB).mono ?_; rw [HL.out, HC.out]; rintro e w2 ⟨A2, c2, rfl, hown2, hE2⟩))
    clear e1 e2 e3 e4 e5 e6 e7
    go_wp2
    go_ret2
    exact ⟨A2, c2, rfl, own_more hown2 (by have := hE.size; simp; omega), ((hE.alloc _).drew).trans hE2⟩
end Go.Proofs.Ytiamcdbnhmlhaaa

/- octet.Signed, PutSigned; a slice of bytes as a string. -/
import Derived.Test.YtiamcdbnhmlhaaaSet
import Derived.Laws.BytesArg
namespace Go.Proofs.Ytiamcdbnhmlhaaa
open Go.RowKit

set_option maxHeartbeats 400000 in
theorem signed_ok (A : Option Addr) (len c : Nat) (l : List UInt8) (at_ n : Nat) (w : World) (hb : Bytes w A len c l) (h1 : 1 ≤ n) (h2 : n ≤ 8) (h4 : at_ + n ≤ len) :
    Calls Try.prog 25 #[.slice A len c, .int .i64 at_, .int .i64 n] w fun e w' => e = .returned (.tuple #[.int .i64 (sval n (val ((l.drop at_).take n))), .int .i64 0]) ∧ w = w' := by
  have hv : val ((l.drop at_).take n) < 256 ^ n := by
    have h := val_lt ((l.drop at_).take n)
    have hl : ((l.drop at_).take n).length = n := by rw [List.length_take, List.length_drop, hb.len]; omega
    rwa [hl] at h
  have HV := hide (signed_eq n _ h1 h2 hv)
  clear hv
  go_enter Try.func25, Try.ntmps25
  go_wp2_with (go_at_call 13; refine (get_ok _ _ _ _ _ _ _ hb h1 h2 h4).mono ?_; rintro e w' ⟨rfl, rfl⟩)
  go_ret2
  exact ⟨by rw [← HV.out]; rfl, rfl⟩
set_option maxHeartbeats 400000 in
theorem signed_arg (A : Option Addr) (len c : Nat) (at_ n : Int) (w : World) (h : n < 1 ∨ 8 < n ∨ at_ < 0) :
    Calls Try.prog 25 #[.slice A len c, .int .i64 at_, .int .i64 n] w fun e w' => e = .returned (.tuple #[.int .i64 0, .int .i64 1]) ∧ w = w' := by
  go_enter Try.func25, Try.ntmps25
  go_wp2_with (go_at_call 13; refine (get_arg _ _ _ _ _ _ h).mono ?_; rintro e w' ⟨rfl, rfl⟩)
  go_ret2
  exact ⟨rfl, rfl⟩
set_option maxHeartbeats 400000 in
theorem signed_short (A : Option Addr) (len c : Nat) (at_ n : Int) (w : World) (hc : len ≤ c) (hr : c ≤ 9223372036854775807) (h1 : 1 ≤ n) (h2 : n ≤ 8) (h3 : 0 ≤ at_) (h4 : len < at_ + n) :
    Calls Try.prog 25 #[.slice A len c, .int .i64 at_, .int .i64 n] w fun e w' => e = .returned (.tuple #[.int .i64 0, .int .i64 2]) ∧ w = w' := by
  go_enter Try.func25, Try.ntmps25
  go_wp2_with (go_at_call 13; refine (get_short _ _ _ _ _ _ hc hr h1 h2 h3 h4).mono ?_; rintro e w' ⟨rfl, rfl⟩)
  go_ret2
  exact ⟨rfl, rfl⟩
set_option maxHeartbeats 400000 in
theorem psigned_arg (v : Int) (n : Int) (w : World) (h : n < 1 ∨ 8 < n) :
    Calls Try.prog 24 #[.int .i64 v, .int .i64 n] w fun e w' => e = .returned (.tuple #[.slice none 0 0, .int .i64 1]) ∧ Ext w w' := by
  go_enter Try.func24, Try.ntmps24
  go_wp2_with (go_at_call 37; refine (sized_no _ _ h).mono ?_; rintro e w' ⟨rfl, rfl⟩)
  go_ret2
  exact ⟨rfl, Ext.refl _⟩
set_option maxHeartbeats 400000 in
theorem psigned_field (v : Int) (n : Nat) (w : World) (h1 : 1 ≤ n) (h2 : n ≤ 8) (h3 : -9223372036854775808 ≤ v) (h4 : v ≤ 9223372036854775807) (hv : ¬ sfits n v) :
    Calls Try.prog 24 #[.int .i64 v, .int .i64 n] w fun e w' => e = .returned (.tuple #[.slice none 0 0, .int .i64 6]) ∧ Ext w w' := by
  have hz := sfits_no n v h1 h2 h3 h4 hv
  clear hv h3 h4
  go_enter Try.func24, Try.ntmps24
  go_wp2_with (go_at_call 37; refine (sized_yes _ _ (by omega) (by omega)).mono ?_; rintro e w' ⟨rfl, rfl⟩)
  go_ret2
  exact ⟨rfl, Ext.refl _⟩
set_option maxHeartbeats 400000 in
theorem psigned_ok (v : Int) (n : Nat) (w : World) (h1 : 1 ≤ n) (h2 : n ≤ 8) (hv : sfits n v) :
    Calls Try.prog 24 #[.int .i64 v, .int .i64 n] w fun e w' => ∃ A c, e = .returned (.tuple #[.slice A n c, .int .i64 0]) ∧ w'.ownsRow w.heap.size 5 1 (.slice A n c) n ((be n (suns n v)).map Bv) ∧ Ext w w' := by
  have hz := sfits_yes n v h1 h2 hv
  have HS := hide (suns_eq n v h1 h2)
  clear hv
  go_enter Try.func24, Try.ntmps24
  go_wp2_with (go_at_call 37; refine (sized_yes _ _ (by omega) (by omega)).mono ?_; rintro e w' ⟨rfl, rfl⟩)
  rw [HS.out]
  refine (put_ok _ _ _ h1 h2 (suns_lt n v h1 h2)).mono ?_
  rintro e w' ⟨A, c, rfl, hown, hE⟩
  go_wp2
  go_ret2
  exact ⟨A, c, rfl, hown, hE⟩

/-- string(b). -/
theorem run_str {w : World} {A : Option Addr} {n c : Nat} {l : List UInt8} (h : Bytes w A n c l) : (convert 22 9 (.slice A n c)).run Try.prog w = .ok (.string ⟨l.toArray⟩) w := by
  rw [run_convert_bytes_string w 22 9 5 A n c Try.underlying22 Try.underlying5 Try.underlying9]
  rcases A with _ | ad
  · have h0 : n = 0 := by
      rcases Nat.eq_zero_or_pos n with h0 | h0
      · exact h0
      · obtain ⟨_, e, _⟩ := h.addr h0
        cases e
    have hl : l = [] := List.eq_nil_of_length_eq_zero (by rw [h.len, h0])
    subst hl
    simp [Conv.bytesToString]
    rfl
  · have hc := run_loadCells_list (P := Try.prog) w ad (l.map Bv) (fun j u hj => by
      have hjl : j < l.length := by
        rcases Nat.lt_or_ge j l.length with h | h
        · exact h
        · simp [List.getElem?_eq_none (show (l.map Bv).length ≤ j by simpa using h)] at hj
      have h1 := h.cell (k := j) (by rw [← h.len]; exact hjl)
      rw [h1]
      simpa [hjl, Bv] using hj)
    rw [List.length_map, h.len, show l.map Bv = (l.map (fun x => (x.toNat : Int))).map (Value.int .u8) by simp [Bv]] at hc
    rw [run_bytesToString w ad n c _ hc, foldl_push_bytes]
    simp [ByteArray.empty, ByteArray.emptyWithCapacity]
    have e : ∀ m : List UInt8, m.map ((fun n : Int => UInt8.ofNat n.toNat) ∘ fun x : UInt8 => (x.toNat : Int)) = m := by
      intro m
      induction m with
      | nil => rfl
      | cons x m ih => rw [List.map_cons, ih]; simp
    rw [e]
    rfl
/-- A literal of bytes. -/
theorem Bytes.lit {w : World} {vs : List Value} (l : List UInt8) (t : TypeId) (n : Nat) (hv : l.map Bv = vs) (hn : l.length = n) (h63 : n ≤ 1048576) : Bytes (w.alloc (.cells vs.toArray t)) (some ⟨w.heap.size, 0, none⟩) n n l := by
  subst hv
  have hb := Blk.new w t (l.map Bv).toArray
  refine ⟨⟨by simp [hn], fun _ => ⟨_, rfl, by simp, fun j u hj => ?_⟩⟩, hn, Nat.le_refl _, by omega⟩
  rw [add_head, hb.cell j, ← hj]
  simp
end Go.Proofs.Ytiamcdbnhmlhaaa

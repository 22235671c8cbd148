/- The document's answer for octets: Get, Put, Must. -/
import Derived.Test.YthepndimhiieiaaPlainOct2
import Derived.Test.YthepndimhiieiaaBytes
import Derived.Test.YthepndimhiieiaaAppend
import Derived.Test.YthepndimhiieiaaBK
import Derived.WalkKit
namespace Go.Proofs.Ythepndimhiieiaa
open Go.RowKit
theorem be_head (k v : Nat) : be (k + 1) v = UInt8.ofNat (v / 256 ^ k) :: be k v := by
  induction k generalizing v with
  | zero => simp [be]
  | succ k ih =>
    rw [be, ih, List.cons_append, be, Nat.div_div_eq_div_mul, Nat.pow_succ, Nat.mul_comm 256]
set_option maxRecDepth 100000 in
set_option maxHeartbeats 1000000 in
theorem rget_ok (A : Option Addr) (len c : Nat) (l : List UInt8) (at_ n : Nat) (w : World) (hb : Bytes w A len c l) (h1 : 1 ≤ n) (h2 : n ≤ 8) (h4 : at_ + n ≤ len) :
    Calls Try.prog 62 #[.slice A len c, .int .i64 at_, .int .i64 n] w fun e w' => e = .returned (.tuple #[.int .u64 (val ((l.drop at_).take n)), .int .i64 0]) ∧ w = w' := by
  have hc := hb.le
  have hr := hb.reach
  have hlen := hb.len
  obtain ⟨g, o, rfl, hg⟩ := hb.form (by omega)
  have g1 : ¬ ((n : Int) < 1) := by omega
  have g2 : ¬ ((8 : Int) < (n : Int)) := by omega
  have g4 : ¬ ((len : Int) < (at_ : Int)) := by omega
  have g5 : ¬ ((len : Int) - (at_ : Int) < (n : Int)) := by omega
  obtain ⟨d, hd⟩ : ∃ d, l.drop at_ = d := ⟨_, rfl⟩
  have hdl : n ≤ d.length := by rw [← hd, List.length_drop]; omega
  have hcell : ∀ k, k < n → w.cell? ⟨g, o + (at_ + k), none⟩ = some (.int .u8 ((d.getD k 0).toNat : Int)) := fun k hk => by
    rw [hb.cellAt (at_ + k) (by omega), ← hd]
    simp [List.getD]
  have HC := hide hcell
  have HD := hide hd
  clear hcell hd hlen
  go_enter Try.func62, Try.ntmps62
  go_wp2_with fail
  go_loop [8, 9] (fun v i => ∃ k : Nat, k ≤ n ∧ i = .int .i64 k ∧ v = .int .u64 (val (d.take k))) (fun _ i => n - (intOf i).toNat)
  case atStart => exact ⟨0, Nat.zero_le _, rfl, rfl⟩
  case round =>
    obtain ⟨k, hk, rfl, rfl⟩ := hrel
    by_cases hlt : k < n
    · have hcl := HC.out k hlt
      have hvl := val_take_lt (l := d) (k := k) (by omega)
      have hvs := val_take_succ d k (by omega)
      have hdk : d.getD k 0 = d[k]'(by omega) := by simp [List.getD, show k < d.length by omega]
      rw [hdk] at hcl
      generalize d[k]'(by omega) = x at hcl hvs
      have hx := x.toNat_lt
      obtain ⟨v, hv⟩ : ∃ v, val (d.take k) = v := ⟨_, rfl⟩
      rw [hv] at hvl hvs ⊢
      have HVS := hide hvs
      have e6 : ((at_ : Int) + (k : Int)).toNat = at_ + k := by omega
      have i1 : (0 : Int) ≤ (at_ : Int) + (k : Int) := by omega
      have i2 : (at_ : Int) + (k : Int) < (len : Int) := by omega
      have s1 : IntKind.u64.wrap (256 * (v : Int)) = 256 * (v : Int) := IntWalk.u64_in _ (by omega)
      have s2 : IntKind.u64.wrap (x.toNat : Int) = (x.toNat : Int) := IntWalk.u64_in _ (by omega)
      have s3 : IntKind.u64.wrap (256 * (v : Int) + (x.toNat : Int)) = 256 * (v : Int) + (x.toNat : Int) := IntWalk.u64_in _ (by omega)
      clear hvs hv hdk
      go_wp2
      go_round
      case rel => exact ⟨k + 1, by omega, by go_num, by rw [HVS.out]; go_num⟩
      case measure => simp [intOf]; omega
    · obtain rfl : k = n := by omega
      go_wp2
      go_ret2
      exact ⟨by rw [HD.out]; rfl, rfl⟩
set_option maxRecDepth 100000 in
set_option maxHeartbeats 1000000 in
theorem rput_ok (v : Nat) (n : Nat) (w : World) (h : 1 ≤ n) (h1 : n ≤ 8) (h63 : v < 18446744073709551616) (hv : v < 256 ^ n) : Calls Try.prog 95 #[.int .u64 v, .int .i64 n] w fun e w' =>
    ∃ A c, e = .returned (.tuple #[.slice A n c, .int .i64 0]) ∧ w'.ownsRow w.heap.size 5 1 (.slice A n c) n ((be n v).map Bv) ∧ Ext w w' := by
  have hmk := make_bytes n (by omega)
  have g1 : ¬ ((n : Int) < 1) := by omega
  have g2 : ¬ ((8 : Int) < (n : Int)) := by omega
  have hR := Row.zeros (Blk.new w 5 (Array.replicate n (Bv 0)))
  have hE := (Ext.refl w).alloc (.cells (Array.replicate n (Bv 0)) 5)
  go_enter Try.func95, Try.ntmps95
  go_wp2_with fail
  generalize w.alloc (.cells (Array.replicate n (Bv 0)) 5) = w1 at hR hE ⊢
  go_loopw [0, 7] (fun x i wr => ∃ k : Nat, k ≤ n ∧ i = .int .i64 k ∧ x = .int .u64 ((v / 256 ^ k : Nat) : Int) ∧ Row wr w.heap.size 5 (List.replicate (n - k) 0 ++ be k v) ∧ Ext w wr) (fun _ i _ => n - (intOf i).toNat)
  case atStart => exact ⟨0, Nat.zero_le _, rfl, by simp, by simpa [be] using hR, hE⟩
  case round =>
    clear hR hE
    obtain ⟨k, hk, rfl, rfl, hR, hE⟩ := hrel
    by_cases hlt : k < n
    · have hl : (List.replicate (n - k) (0 : UInt8) ++ be k v).length = n := by rw [List.length_append, List.length_replicate, be_length]; omega
      obtain ⟨u, c0⟩ : ∃ u, wr.cell? ⟨w.heap.size, n - 1 - k, none⟩ = some u := ⟨_, hR.cell (i := n - 1 - k) (by rw [hl]; omega)⟩
      have f0 := hR.frozen (n - 1 - k)
      have hq : v / 256 ^ k ≤ v := Nat.div_le_self _ _
      have hset : (List.replicate (n - k) (0 : UInt8) ++ be k v).set (n - 1 - k) (UInt8.ofNat (v / 256 ^ k)) = List.replicate (n - (k + 1)) 0 ++ be (k + 1) v := by
        have e1 : n - k = (n - (k + 1)) + 1 := by omega
        rw [e1, List.replicate_succ', List.append_assoc, List.set_append_right _ _ (by simp; omega)]
        have e2 : n - 1 - k - (List.replicate (n - (k + 1)) (0 : UInt8)).length = 0 := by simp; omega
        rw [e2, List.singleton_append, List.set_cons_zero]
        congr 1
        exact (be_head k v).symm
      have hR2 := hR.set_ (n - 1 - k) (UInt8.ofNat (v / 256 ^ k))
      rw [hset] at hR2
      have hE2 := hE.setCell (p := ⟨w.heap.size, n - 1 - k, none⟩) (Nat.le_refl _) (.int .u8 ((UInt8.ofNat (v / 256 ^ k)).toNat : Int))
      have hdiv : v / 256 ^ k / 256 = v / 256 ^ (k + 1) := by rw [Nat.div_div_eq_div_mul, Nat.pow_succ]
      obtain ⟨q, hqq⟩ : ∃ q, v / 256 ^ k = q := ⟨_, rfl⟩
      rw [hqq] at hdiv hR2 hE2 hq ⊢
      have e3 := low_byte q
      have e4 : ((n : Int) - 1 - (k : Int)).toNat = n - 1 - k := by omega
      have i1 : (0 : Int) ≤ (n : Int) - 1 - (k : Int) := by omega
      have i2 : (n : Int) - 1 - (k : Int) < (n : Int) := by omega
      have HDV := hide hdiv
      obtain ⟨y, hy⟩ : ∃ y, (UInt8.ofNat q).toNat = y := ⟨_, rfl⟩
      rw [hy] at e3 hR2 hE2
      clear hl hset hR hE hdiv hqq hy
      go_wp2_with fail
      go_roundw
      case rel => exact ⟨k + 1, by omega, by go_num, by rw [← HDV.out]; go_num, hR2, hE2⟩
      case measure => simp [intOf]; omega
    · obtain rfl : k = n := by omega
      have h0 : v / 256 ^ k = 0 := Nat.div_eq_of_lt hv
      rw [h0] at *
      rw [Nat.sub_self, List.replicate_zero, List.nil_append] at hR
      have ho := hR.own (base := w.heap.size) (Nat.le_refl _) (by rw [be_length]; unfold maxLen; omega)
      rw [be_length] at ho
      clear hR
      go_wp2_with fail
      go_ret2
      exact ⟨_, _, rfl, ho, hE⟩
theorem rmust_ok (v : Nat) (n : Nat) (w : World) (h : 1 ≤ n) (h1 : n ≤ 8) (h63 : v < 18446744073709551616) (hv : v < 256 ^ n) : Calls Try.prog 60 #[.int .u64 v, .int .i64 n] w fun e w' =>
    ∃ A c, e = .returned (.slice A n c) ∧ Bytes w' A n c (be n v) ∧ Ext w w' := by
  have S := hide (fun W => rput_ok v n W h h1 h63 hv)
  clear hv
  go_enter Try.func60, Try.ntmps60
  go_wp2_with fail
  refine (S.out _).mono ?_
  rintro e w1 ⟨A, c, rfl, ho, hE⟩
  go_wp2_with fail
  go_ret
  exact ⟨A, c, rfl, Bytes.own ho, hE⟩
end Go.Proofs.Ythepndimhiieiaa

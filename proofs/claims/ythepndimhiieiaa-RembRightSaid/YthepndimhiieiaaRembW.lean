/- remb.Write: the walk. -/
import Derived.Test.YthepndimhiieiaaRembS
import Derived.Test.YthepndimhiieiaaPlainHead
import Derived.Test.YthepndimhiieiaaStr
import Derived.Deep.DeepCutAuto
import Derived.Lib.SlBytesConst
import Derived.Laws.IdiomStrings
namespace Go.Proofs.Ythepndimhiieiaa
open Go.RowKit
set_option maxHeartbeats 1000000 in
theorem write17_no (x : Int) (m : Nat) (A : Option Addr) (n c : Nat) (w : World) (hr : rbRight x m n = false) : Calls Try.prog 45 #[.agg #[.int .i64 x, .int .u32 (m : Int), .slice A n c]] w fun e w' => e = .returned (.tuple #[.slice none 0 0, .int .i64 1]) ∧ Ext w w' := by
  have S := hide (fun W => right17 x m A n c W)
  rw [hr] at S
  clear hr
  go_enter Try.func45, Try.ntmps45
  go_wp2_with fail
  refine (S.out _).mono ?_
  rintro e w1 ⟨rfl, hE⟩
  go_wp2_with fail
  go_ret2
  exact ⟨rfl, ((Ext.refl _).alloc _).trans hE⟩
theorem join_O (A : Option Addr) (k c : Nat) (ls : List (List UInt8)) (w0 w : World) (hE : Ext w0 w) (h : Slices w A k c ls) (n : Nat) (x : List UInt8) (hx : cat ls = x) (hl : x.length = n) (hn : n ≤ 70368744177664) :
    Calls Try.prog 81 #[.slice A k c] w fun e w' => ∃ A' c', e = .returned (.slice A' n c') ∧ w'.ownsRow w0.heap.size 5 1 (.slice A' n c') n (x.map Bv) ∧ Ext w w' := by
  subst hx hl
  exact (join_any A k c ls w h hn).mono fun e w' ⟨A', c', he, ho, hE2⟩ => ⟨A', c', he, own_more ho hE.size, hE2⟩
theorem Bytes.litM {w : World} {vs : List Value} (l : List UInt8) (t : TypeId) (fr : Nat × Nat) (n : Nat) (hv : l.map Bv = vs) (hn : l.length = n) (h63 : n ≤ 1048576) : Bytes (w.alloc (.cells vs.toArray t fr)) (some ⟨w.heap.size, 0, none⟩) n n l := by
  subst hv
  refine ⟨⟨by simp [hn], fun _ => ⟨_, rfl, by simp, fun j u hj => ?_⟩⟩, hn, Nat.le_refl _, by omega⟩
  rw [add_head, World.cell?_alloc_mark, ← hj]
  simp
def rbFix (x m n : Nat) : List UInt8 := [82, 69, 77, 66] ++ ([UInt8.ofNat n] ++ be 3 (x * 262144 + m))
def rbBytes (x m : Nat) (l : List UInt32) : List UInt8 := rbFix x m l.length ++ cBe l
theorem or18 (x m : Nat) (hx : x ≤ 63) (hm : m < 262144) : bits .or .u64 ((x : Int) * 262144) (m : Int) = ((x * 262144 + m : Nat) : Int) := by
  have h := Nat.two_pow_add_eq_or_of_lt (i := 18) (b := m) (by omega) x
  have e := u64_or_nat (x * 262144) m (by omega) (by omega)
  rw [Int.natCast_mul] at e
  rw [show ((262144 : Int)) = ((262144 : Nat) : Int) from rfl, e]
  congr 1
  rw [show x * 262144 = 2 ^ 18 * x by omega, ← h]
set_option maxRecDepth 100000 in
set_option maxHeartbeats 2000000 in
theorem write17_O (x m : Nat) (l : List UInt32) (A : Option Addr) (c : Nat) (n : Nat) (w : World) (hc : Els e32 w A n c l) (hr : rbRight (x : Int) m n = true) : Calls Try.prog 45 #[.agg #[.int .i64 (x : Int), .int .u32 (m : Int), .slice A n c]] w fun e w' => ∃ A' c', e = .returned (.tuple #[.slice A' (8 + 4 * n) c', .int .i64 0]) ∧ w'.ownsRow w.heap.size 5 1 (.slice A' (8 + 4 * n) c') (8 + 4 * n) ((rbBytes x m l).map Bv) ∧ Ext w w' := by
  obtain ⟨r1, r2, r3, r4, r5⟩ := of_decide_eq_true hr
  have hlen := hc.len
  have hnc := hc.le
  have hcm := hc.reach
  have hbx := Blk.new w 84 #[.int .i64 (x : Int), .int .u32 (m : Int), .slice A n c]
  have hE := (Ext.refl w).alloc (.cells #[.int .i64 (x : Int), .int .u32 (m : Int), .slice A n c] 84)
  have S := hide (fun W => right17 x m A n c W)
  rw [hr] at S
  clear hr r4
  have k0 := or18 x m (by omega) r3
  obtain ⟨V, hV⟩ : ∃ V, x * 262144 + m = V := ⟨_, rfl⟩
  rw [hV] at k0
  have hV24 : V < 16777216 := by omega
  have hpe : putE V 3 = 0 := putE_of (by omega) (by omega) (by simpa using hV24)
  have P := hide (fun W => put_B V 3 W (by omega) (be 3 V) (putL_ok hpe) 0 hpe)
  have hbl := be_length 3 V
  rw [hbl] at P
  have hfx : cat [[82, 69, 77, 66], [UInt8.ofNat n], be 3 V] = rbFix x m n := by simp [rbFix, cat, hV]
  have hfl : (rbFix x m n).length = 8 := by simp [rbFix, be_length]
  have hby : rbBytes x m l = rbFix x m n ++ cBe (l.take n) := by rw [List.take_of_length_le (by omega), rbBytes, hlen]
  have HFX := hide hfx
  have HFL := hide hfl
  have HBY := hide hby
  have K0 := hide k0
  have HLEN := hide hlen
  have hn8 : (n : Int) % 256 = (n : Int) := by omega
  clear k0 hfx hfl hby hbl hpe hlen hV
  have kc := fun (w : World) (C : Array Value) (n c : Nat) => Lib.run_convert_bytes_const (P := Try.prog) w 25 5 C n c Try.underlying25 Try.underlying5
  go_enter Try.func45, Try.ntmps45
  go_wp2_with fail
  refine (S.out _).mono ?_
  rintro e w1 ⟨rfl, hE1⟩
  replace hbx := hbx.below hE1 (by simp)
  replace hE := hE.trans hE1
  clear hE1 S
  obtain ⟨⟨u0, u1, u2⟩, _, hlt⟩ := hbx.three
  go_wp2_with fail
  first | rw [K0.out] | skip
  refine (P.out _).mono ?_
  rintro e w2 ⟨A5, c5, rfl, hB5, hE2⟩
  replace hbx := hbx.below hE2 hlt
  replace hE := hE.trans hE2
  clear hE2 P u0 u1 u2
  obtain ⟨⟨u0, u1, u2⟩, _, hlt⟩ := hbx.three
  go_wp2_with fail
  have hv1 : ([82, 69, 77, 66] : List UInt8).map Bv = [.int .u8 82, .int .u8 69, .int .u8 77, .int .u8 66] := rfl
  have hv2 : [UInt8.ofNat n].map Bv = [.int .u8 (n : Int)] := by simp [Bv]; omega
  have hL1 := (Bytes.litM (w := w2) _ 5 (4, 5) 4 hv1 rfl (by omega)).alloc (.cells #[.int .u8 (n : Int)] 5)
  have hL2 := Bytes.lit (w := w2.alloc (.cells #[.int .u8 82, .int .u8 69, .int .u8 77, .int .u8 66] 5 (4, 5))) _ 5 1 hv2 rfl (by omega)
  rw [World.size_alloc] at hL2
  have hSl := Slices.lit (vs := [.slice (some ⟨w2.heap.size, 0, none⟩) 4 4, .slice (some ⟨w2.heap.size + 1, 0, none⟩) 1 1, .slice A5 3 c5]) (ls := [[82, 69, 77, 66], [UInt8.ofNat n], be 3 V]) 25 3 rfl (by omega) ⟨hL1, hL2, (hB5.alloc _).alloc _, trivial⟩
  rw [World.size_alloc, World.size_alloc] at hSl
  refine (join_O _ _ _ _ w _ (((hE.alloc _).alloc _).alloc _) hSl 8 (rbFix x m n) HFX.out HFL.out (by omega)).mono ?_
  rintro e w3 ⟨A8, c8, rfl, hO, hE3⟩
  have hE4 := (((Ext.refl w2).alloc _).alloc _).alloc _ |>.trans hE3
  clear hL1 hL2 hSl hE3 hB5 kc
  replace hbx := hbx.below hE4 hbx.lt
  replace hE := hE.trans hE4
  clear hE4 u0 u1 u2
  obtain ⟨⟨u0, u1, u2⟩, _, hlt⟩ := hbx.three
  go_wp2_with fail
  clear u0 u1 u2
  go_loopw [6, 39] (fun v i wr => ∃ (j : Nat) (A' : Option Addr) (c' : Nat), j ≤ n ∧ i = .int .i64 j ∧ v = .slice A' (8 + 4 * j) c' ∧ wr.ownsRow w.heap.size 5 1 (.slice A' (8 + 4 * j) c') (8 + 4 * j) ((rbFix x m n ++ cBe (l.take j)).map Bv) ∧ Ext w wr) (fun _ i _ => n - (intOf i).toNat)
  case atStart => exact ⟨0, A8, c8, Nat.zero_le _, rfl, rfl, by simpa [cBe] using hO, hE⟩
  case round =>
    clear hO
    obtain ⟨j, A', c', hj, rfl, rfl, hO, hX⟩ := hrel
    by_cases hlt : j < n
    · have hjl : j < l.length := by rw [HLEN.out]; exact hlt
      obtain ⟨g, o, rfl, hg, hcell⟩ := (hc.ext hX).u32 (by omega)
      have hc0 := hcell j hjl
      have hts := cBe_take l j hjl
      generalize l[j] = q at hc0 hts
      have hq := q.toNat_lt
      have hqe : putE q.toNat 4 = 0 := putE_of (by omega) (by omega) (by simpa using hq)
      have P4 := hide (fun W => put_B q.toNat 4 W (by omega) (be 4 q.toNat) (putL_ok hqe) 0 hqe)
      have hbl := be_length 4 q.toNat
      rw [hbl] at P4
      have HTS := hide hts
      clear hcell hts hqe hbl
      go_wp2_with fail
      refine (P4.out _).mono ?_
      rintro e w4 ⟨A9, c9, rfl, hB9, hE4⟩
      replace hO := own_ext hO hE4
      replace hX := hX.trans hE4
      clear hE4 hc0
      go_wp2_with (at_builtin; refine wpList_appB w _ _ rfl rfl hX A' (8 + 4 * j) c' _ rfl hO A9 4 c9 _ rfl hB9 (by omega) ?_; intro A2 c2 w5 hO2 hE5)
      go_roundw
      case rel => exact ⟨j + 1, A2, c2, by omega, by go_num, rfl, by rw [HTS.out, ← List.append_assoc]; exact hO2, hE5⟩
      case measure => simp [intOf]; omega
    · obtain rfl : j = n := by omega
      go_wp2_with fail
      go_ret2
      exact ⟨A', c', rfl, by rw [HBY.out]; exact hO, hX⟩
theorem write17_B (x m : Nat) (l : List UInt32) (A : Option Addr) (c : Nat) (n : Nat) (w : World) (hc : Els e32 w A n c l) (hr : rbRight (x : Int) m n = true) (y : List UInt8) (hy : rbBytes x m l = y) : Calls Try.prog 45 #[.agg #[.int .i64 (x : Int), .int .u32 (m : Int), .slice A n c]] w fun e w' => ∃ A' c', e = .returned (.tuple #[.slice A' (8 + 4 * n) c', .int .i64 0]) ∧ Bytes w' A' (8 + 4 * n) c' y ∧ Ext w w' := by
  subst hy
  exact (write17_O x m l A c n w hc hr).mono fun e w' ⟨A', c', he, ho, hE⟩ => ⟨A', c', he, Bytes.own ho, hE⟩
end Go.Proofs.Ythepndimhiieiaa

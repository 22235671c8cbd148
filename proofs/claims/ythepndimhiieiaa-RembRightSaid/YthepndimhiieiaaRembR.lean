/- The document's answer for layer 17: Right, Write, Of, Value. -/
import Derived.Test.YthepndimhiieiaaPlainRemb3
import Derived.Test.YthepndimhiieiaaRembF
import Derived.Test.YthepndimhiieiaaRef01
namespace Go.Proofs.Ythepndimhiieiaa
open Go.RowKit
set_option maxRecDepth 100000 in
set_option maxHeartbeats 1000000 in
theorem rright17 (x : Int) (m : Nat) (A : Option Addr) (n c : Nat) (w : World) (r : Bool) (hr : rbRight x m n = r) : Calls Try.prog 44 #[.agg #[.int .i64 x, .int .u32 (m : Int), .slice A n c]] w fun e w' => e = .returned (.bool r) ∧ Ext w w' := by
  subst hr
  have hm : rbRight x m n = decide (0 ≤ x ∧ x ≤ 63 ∧ (m : Int) < 262144 ∧ (x = 0 ∨ 131072 ≤ (m : Int)) ∧ n ≤ 255) := by unfold rbRight; rw [decide_eq_decide]; omega
  rw [hm]
  clear hm
  generalize (m : Int) = mi
  clear m
  go_enter Try.func44, Try.ntmps44
  go_wp2
  all_goals go_ret
  all_goals exact ⟨ret_boolR (by simp; try omega), (Ext.refl _).alloc _⟩
set_option maxRecDepth 100000 in
set_option maxHeartbeats 2000000 in
theorem rof17 (v : Nat) (hv : v < 18446744073709551616) (x m : Nat) (hx : ofX v = x) (hm : ofM v = m) (w : World) : Calls Try.prog 54 #[.int .u64 (v : Int)] w fun e w' => e = .returned (.agg #[.int .i64 (x : Int), .int .u32 (m : Int), .slice none 0 0]) ∧ Ext w w' := by
  have hx46 : x ≤ 46 := by rw [← hx]; exact ofX_le v hv
  have hz := Blk.new w 84 #[.int .i64 0, .int .u32 (0 : Int), .slice none 0 0]
  have hE := (Ext.refl w).alloc (.cells #[.int .i64 0, .int .u32 (0 : Int), .slice none 0 0] 84)
  go_enter Try.func54, Try.ntmps54
  go_wp2_with fail
  have h1 := Blk.new (w.alloc (.cells #[.int .i64 0, .int .u32 (0 : Int), .slice none 0 0] 84)) 84 #[.int .i64 0, .int .u32 (0 : Int), .slice none 0 0]
  rw [World.size_alloc] at h1
  replace hz := hz.alloc (.cells #[.int .i64 0, .int .u32 (0 : Int), .slice none 0 0] 84)
  replace hE := hE.alloc (.cells #[.int .i64 0, .int .u32 (0 : Int), .slice none 0 0] 84)
  go_loopw [0] (fun i wr => ∃ (q X : Nat), i = .int .u64 (q : Int) ∧ q < 18446744073709551616 ∧ X + ofX q = x ∧ ofM q = m ∧ Blk wr (w.heap.size + 1) 84 #[.int .i64 (X : Int), .int .u32 (0 : Int), .slice none 0 0] ∧ Blk wr w.heap.size 84 #[.int .i64 0, .int .u32 (0 : Int), .slice none 0 0] ∧ Ext w wr) (fun i _ => (intOf i).toNat)
  case atStart => exact ⟨v, 0, rfl, hv, by omega, hm, h1, hz, hE⟩
  case round =>
    clear h1 hz hE hx hm
    obtain ⟨q, X, rfl, hq, hx, hm, h1, hz, hE⟩ := hrel
    obtain ⟨⟨u0, u1, u2⟩, uf, _⟩ := h1.three
    by_cases hlt : 262144 ≤ q
    · obtain ⟨e1, e2⟩ := of_step q hq hlt
      have HX := hide (And.intro hx (And.intro hm (And.intro e1 e2)))
      have hxl := ofX_le q hq
      have hX46 : X < 46 := by omega
      have hqi : (262144 : Int) ≤ (q : Int) := by omega
      have k1 : IntKind.u64.wrap ((q : Int).tdiv 2) = ((q / 2 : Nat) : Int) := by rw [Int.tdiv_eq_ediv_of_nonneg (by omega), IntWalk.u64_in _ (by omega)]; omega
      have k2 : IntKind.i64.wrap ((X : Int) + 1) = ((X + 1 : Nat) : Int) := by rw [IntWalk.i64_in _ (by omega)]; omega
      have hlt2 : q / 2 < q := by omega
      have hq2 : q / 2 < 18446744073709551616 := by omega
      obtain ⟨qi, hqe⟩ : ∃ qi : Int, (q : Int) = qi := ⟨_, rfl⟩
      have HQ := hide (And.intro hqe (And.intro hlt2 hq2))
      rw [hqe] at hqi k1 ⊢
      have K := hide (And.intro k1 k2)
      clear hx hm e1 e2 hlt hq hqe k1 k2 hlt2 hq2 hxl
      go_wp2_with fail
      go_roundw
      case rel =>
        obtain ⟨hx, hm, e1, e2⟩ := HX.out
        refine ⟨q / 2, X + 1, by rw [K.out.1], HQ.out.2.2, by omega, by rw [← e2]; exact hm, ?_, hz.far (by show w.heap.size ≠ w.heap.size + 1; omega) _, hE.setCell (by show w.heap.size ≤ w.heap.size + 1; omega) _⟩
        have := h1.set_ 0 (.int .i64 ((X : Int) + 1))
        simp only [List.setIfInBounds_toArray, List.set_cons_zero] at this
        exact this
      case measure =>
        rw [K.out.1, ← HQ.out.1]
        simp only [intOf, Int.toNat_natCast]
        exact HQ.out.2.1
    · obtain ⟨e1, e2⟩ := of_end q (by omega)
      rw [e1] at hx
      rw [e2] at hm
      obtain rfl : X = x := by omega
      subst hm
      obtain ⟨⟨v0, v1, v2⟩, vf, _⟩ := hz.three
      have hqi : ¬ (262144 : Int) ≤ (q : Int) := by omega
      have hqw : (q : Int) % 4294967296 = (q : Int) := by omega
      obtain ⟨qi, hqe⟩ : ∃ qi : Int, (q : Int) = qi := ⟨_, rfl⟩
      have HQ := hide hqe
      rw [hqe] at hqi hqw ⊢
      clear e1 e2 hlt hq hx hqe
      go_wp2_with fail
      have hE2 := (((hE.setCell (p := ⟨w.heap.size + 1, 1, none⟩) (by show w.heap.size ≤ w.heap.size + 1; omega) (.int .u32 qi)).setCell (p := ⟨w.heap.size, 0, none⟩) (Nat.le_refl _) (.int .i64 (X : Int))).setCell (p := ⟨w.heap.size, 1, none⟩) (Nat.le_refl _) (.int .u32 qi)).setCell (p := ⟨w.heap.size, 2, none⟩) (Nat.le_refl _) (.slice none 0 0)
      have hzf := (((hz.far (p := ⟨w.heap.size + 1, 1, none⟩) (by show w.heap.size ≠ w.heap.size + 1; omega) (.int .u32 qi)).set_ 0 (.int .i64 (X : Int))).set_ 1 (.int .u32 qi)).set_ 2 (.slice none 0 0)
      simp only [List.setIfInBounds_toArray, List.set_cons_zero, List.set_cons_succ] at hzf
      obtain ⟨⟨z0, z1, z2⟩, _, _⟩ := hzf.three
      clear u0 u1 u2 v0 v1 v2
      rw [HQ.out] at *
      exact bodyPost_ret (v := .agg #[.int .i64 (X : Int), .int .u32 qi, .slice none 0 0]) (by simp [results, Try.results54, go_sem, z0, z1, z2]) rfl ⟨rfl, hE2⟩
set_option maxRecDepth 100000 in
set_option maxHeartbeats 2000000 in
theorem rvalue17_no (x : Int) (m : Nat) (A : Option Addr) (n c : Nat) (w : World) (hr : rbRight x m n = false) : Calls Try.prog 56 #[.agg #[.int .i64 x, .int .u32 (m : Int), .slice A n c]] w fun e w' => e = .returned (.int .u64 0) ∧ Ext w w' := by
  have S := hide (fun W => rright17 x m A n c W false hr)
  clear hr
  go_enter Try.func56, Try.ntmps56
  go_wp2_with fail
  refine (S.out _).mono ?_
  rintro e w1 ⟨rfl, hE⟩
  go_wp2_with fail
  go_ret
  exact ⟨rfl, ((Ext.refl _).alloc _).trans hE⟩
set_option maxRecDepth 100000 in
set_option maxHeartbeats 2000000 in
theorem value17_no (x : Int) (m : Nat) (A : Option Addr) (n c : Nat) (w : World) (hr : rbRight x m n = false) : Calls Try.prog 55 #[.agg #[.int .i64 x, .int .u32 (m : Int), .slice A n c]] w fun e w' => e = .returned (.int .u64 0) ∧ Ext w w' := by
  have S := hide (fun W => right17 x m A n c W)
  rw [hr] at S
  clear hr
  go_enter Try.func55, Try.ntmps55
  go_wp2_with fail
  refine (S.out _).mono ?_
  rintro e w1 ⟨rfl, hE⟩
  go_wp2_with fail
  go_ret
  exact ⟨rfl, ((Ext.refl _).alloc _).trans hE⟩
set_option maxRecDepth 100000 in
set_option maxHeartbeats 2000000 in
theorem rvalue17_ok (x m : Nat) (A : Option Addr) (n c : Nat) (w : World) (hr : rbRight (x : Int) m n = true) (v : Nat) (hv : rbVal x m n = v) : Calls Try.prog 56 #[.agg #[.int .i64 (x : Int), .int .u32 (m : Int), .slice A n c]] w fun e w' => e = .returned (.int .u64 (v : Int)) ∧ Ext w w' := by
  obtain ⟨_, r2, r3, _, _⟩ := of_decide_eq_true hr
  have S := hide (fun W => rright17 x m A n c W true hr)
  have hbx := Blk.new w 84 #[.int .i64 (x : Int), .int .u32 (m : Int), .slice A n c]
  unfold rbVal at hv
  rw [if_pos hr] at hv
  have HV := hide hv
  clear hr hv
  go_enter Try.func56, Try.ntmps56
  go_wp2_with fail
  refine (S.out _).mono ?_
  rintro e w1 ⟨rfl, hE⟩
  replace hbx := hbx.below hE (by simp)
  obtain ⟨⟨u0, u1, u2⟩, _, _⟩ := hbx.three
  have hE2 := ((Ext.refl _).alloc _).trans hE
  clear hE
  go_wp2_with fail
  clear u0 u1 u2
  go_loopw [3, 4] (fun q i wr => ∃ (j : Nat), j ≤ x ∧ i = .int .i64 j ∧ q = .int .u64 ((m * 2 ^ j : Nat) : Int) ∧ m * 2 ^ j < 18446744073709551616 ∧ Blk wr w.heap.size 84 #[.int .i64 (x : Int), .int .u32 (m : Int), .slice A n c] ∧ Ext w wr) (fun _ i _ => x - (intOf i).toNat)
  case atStart => exact ⟨0, Nat.zero_le _, rfl, by simp, by omega, hbx, hE2⟩
  case round =>
    clear hbx hE2
    obtain ⟨j, hj, rfl, rfl, hq, hbx, hE⟩ := hrel
    obtain ⟨⟨u0, u1, u2⟩, uf, _⟩ := hbx.three
    by_cases hlt : j < x
    · obtain ⟨q, hqe⟩ : ∃ q, m * 2 ^ j = q := ⟨_, rfl⟩
      have hs : m * 2 ^ (j + 1) = 2 * q := by rw [Nat.pow_succ, ← hqe, ← Nat.mul_assoc, Nat.mul_comm 2]
      have hov := val_over x m j (by omega) hlt
      rw [hqe] at hq hov ⊢
      by_cases hbig : 9223372036854775808 ≤ q
      · have hov2 := hov hbig
        have hv := HV.out
        rw [if_pos hov2] at hv
        subst hv
        have hqi : (9223372036854775808 : Int) ≤ (q : Int) := by omega
        generalize (q : Int) = qi at hqi ⊢
        clear hov hqe hs hov2 hq hbig
        go_wp2_with fail
        go_ret
        exact ⟨rfl, hE⟩
      · have HS := hide hs
        have hqi : ¬ (9223372036854775808 : Int) ≤ (q : Int) := by omega
        have hqw : IntKind.u64.wrap (2 * (q : Int)) = 2 * (q : Int) := IntWalk.u64_in _ (by omega)
        have hq2 : m * 2 ^ (j + 1) < 18446744073709551616 := by omega
        obtain ⟨qi, hqe⟩ : ∃ qi : Int, (q : Int) = qi := ⟨_, rfl⟩
        have HQ := hide (And.intro hqe hq2)
        rw [hqe] at hqi hqw ⊢
        clear hov hqe hs hq hbig hq2
        go_wp2_with fail
        go_roundw
        case rel => exact ⟨j + 1, by omega, by go_num, by rw [HS.out, Int.natCast_mul, HQ.out.1]; rfl, HQ.out.2, hbx, hE⟩
        case measure => simp [intOf]; omega
    · obtain rfl : j = x := by omega
      have hv := HV.out
      rw [if_neg (val_end j m (by omega) (by omega) hq)] at hv
      rw [hv]
      clear hv
      go_wp2_with fail
      go_ret
      exact ⟨rfl, hE⟩
set_option maxRecDepth 100000 in
set_option maxHeartbeats 2000000 in
theorem rwrite17_B (x m : Nat) (l : List UInt32) (A : Option Addr) (c : Nat) (n : Nat) (w : World) (hc : Els e32 w A n c l) (hr : rbRight (x : Int) m n = true) (y : List UInt8) (hy : rbBytes x m l = y) : Calls Try.prog 46 #[.agg #[.int .i64 (x : Int), .int .u32 (m : Int), .slice A n c]] w fun e w' => ∃ A' c', e = .returned (.slice A' (8 + 4 * n) c') ∧ Bytes w' A' (8 + 4 * n) c' y ∧ Ext w w' := by
  obtain ⟨r1, r2, r3, r4, r5⟩ := of_decide_eq_true hr
  have hlen := hc.len
  have hnc := hc.le
  have hcm := hc.reach
  have hbx := Blk.new w 84 #[.int .i64 (x : Int), .int .u32 (m : Int), .slice A n c]
  have hE := (Ext.refl w).alloc (.cells #[.int .i64 (x : Int), .int .u32 (m : Int), .slice A n c] 84)
  clear hr r4
  obtain ⟨V, hV⟩ : ∃ V, x * 262144 + m = V := ⟨_, rfl⟩
  have hV24 : V < 16777216 := by omega
  have M := hide (fun W => rmust_ok V 3 W (by omega) (by omega) (by omega) (by omega))
  have hby : rbBytes x m l = [82, 69, 77, 66, UInt8.ofNat n] ++ be 3 V ++ cBe (l.take n) := by rw [List.take_of_length_le (by omega), rbBytes, rbFix, hlen, hV]; simp
  rw [hby] at hy
  have s1 : IntKind.u64.wrap (262144 * (x : Int)) = 262144 * (x : Int) := IntWalk.u64_in _ (by omega)
  have s2 : IntKind.u64.wrap (x : Int) = (x : Int) := IntWalk.u64_in _ (by omega)
  have s3 : IntKind.u64.wrap (262144 * (x : Int) + (m : Int)) = (V : Int) := by rw [IntWalk.u64_in _ (by omega)]; omega
  have hn8 : (n : Int) % 256 = (n : Int) := by omega
  have HY := hide hy
  have HLEN := hide hlen
  have HS := hide (And.intro s1 (And.intro s2 s3))
  clear hby hlen hV hy s1 s2 s3
  go_enter Try.func46, Try.ntmps46
  obtain ⟨s1, s2, s3⟩ := HS.out
  go_wp2_with fail
  obtain ⟨wa, hwa⟩ : ∃ wa, w.alloc (.cells #[.int .i64 (x : Int), .int .u32 (m : Int), .slice A n c] 84) = wa := ⟨_, rfl⟩
  rw [hwa] at hbx hE ⊢
  have hsz : wa.heap.size = w.heap.size + 1 := by rw [← hwa]; simp
  have O : (wa.alloc (.cells #[.int .u8 82, .int .u8 69, .int .u8 77, .int .u8 66, .int .u8 (n : Int)] 5)).ownsRow wa.heap.size 5 1 (.slice (some ⟨w.heap.size + 1, 0, none⟩) 5 5) 5 (([82, 69, 77, 66, UInt8.ofNat n] : List UInt8).map Bv) := by
    rw [← hsz]
    have e : ([82, 69, 77, 66, UInt8.ofNat n] : List UInt8).map Bv = [.int .u8 82, .int .u8 69, .int .u8 77, .int .u8 66, .int .u8 (n : Int)] := by simp [Bv]; omega
    rw [e]
    exact World.ownsRow_lit (base := wa.heap.size) (e := 5) (size := 1) wa _ 5 (Nat.le_refl _) (by unfold maxLen; omega) (by simp)
  refine (M.out _).mono ?_
  rintro e w2 ⟨A2, c2, rfl, hB2, hE2⟩
  replace O := own_ext O hE2
  replace hE2 := ((Ext.refl _).alloc _).trans hE2
  clear hwa
  obtain ⟨⟨u0, u1, u2⟩, _, _⟩ := (hbx.below hE2 hbx.lt).three
  go_wp2_with (at_builtin; refine wpList_appB wa _ _ rfl rfl hE2 _ 5 5 _ rfl O A2 3 c2 _ rfl hB2 (by omega) ?_; intro A3 c3 w3 O3 hE3)
  clear u0 u1 u2 O hE2 hB2 M s1 s2 s3 HS
  replace hc := hc.ext hE
  go_loopw [3, 4] (fun v i wr => ∃ (j : Nat) (A' : Option Addr) (c' : Nat), j ≤ n ∧ i = .int .i64 j ∧ v = .slice A' (8 + 4 * j) c' ∧ wr.ownsRow wa.heap.size 5 1 (.slice A' (8 + 4 * j) c') (8 + 4 * j) (([82, 69, 77, 66, UInt8.ofNat n] ++ be 3 V ++ cBe (l.take j)).map Bv) ∧ Ext wa wr) (fun _ i _ => n - (intOf i).toNat)
  case atStart => exact ⟨0, A3, c3, Nat.zero_le _, rfl, rfl, by simpa [cBe] using O3, hE3⟩
  case round =>
    clear O3 hE3
    obtain ⟨j, A', c', hj, rfl, rfl, hO, hX⟩ := hrel
    obtain ⟨⟨u0, u1, u2⟩, _, _⟩ := (hbx.below hX hbx.lt).three
    by_cases hlt : j < n
    · have hjl : j < l.length := by rw [HLEN.out]; exact hlt
      obtain ⟨g, o, rfl, hg, hcell⟩ := (hc.ext hX).u32 (by omega)
      have hc0 := hcell j hjl
      have hts := cBe_take l j hjl
      generalize l[j] = q at hc0 hts
      have hq := q.toNat_lt
      have hq2 : (q.toNat : Int) < 4294967296 := by omega
      have S := hide (fun W => rmust_ok q.toNat 4 W (by omega) (by omega) (by omega) (by omega))
      have HTS := hide hts
      clear hcell hts
      go_wp2_with fail
      refine (S.out _).mono ?_
      rintro e w4 ⟨A9, c9, rfl, hB9, hE4⟩
      replace hO := own_ext hO hE4
      replace hX := hX.trans hE4
      clear hE4 hc0 u0 u1 u2 S
      go_wp2_with (at_builtin; refine wpList_appB wa _ _ rfl rfl hX A' (8 + 4 * j) c' _ rfl hO A9 4 c9 _ rfl hB9 (by omega) ?_; intro A2 c2 w5 hO2 hE5)
      go_roundw
      case rel => exact ⟨j + 1, A2, c2, by omega, by go_num, rfl, by rw [HTS.out, ← List.append_assoc]; exact hO2, hE5⟩
      case measure => simp [intOf]; omega
    · obtain rfl : j = n := by omega
      go_wp2_with fail
      go_ret
      exact ⟨A', c', rfl, by rw [← HY.out]; exact Bytes.own hO, hE.trans hX⟩
end Go.Proofs.Ythepndimhiieiaa

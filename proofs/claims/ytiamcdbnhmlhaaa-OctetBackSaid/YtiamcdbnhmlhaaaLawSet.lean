/- OctetSet: the walk. -/
import Derived.Test.YtiamcdbnhmlhaaaAwake01
namespace Go.Proofs.Ytiamcdbnhmlhaaa
open Go.RowKit

/-- octet.Set, for the walk of a law: a fresh world, what it reads. -/
theorem set_B (A : Option Addr) (len c : Nat) (l : List UInt8) (at_ n : Int) (v : Nat) (w : World) (hb : Bytes w A len c l) (hl : len ≤ 35184372088832) (hv : v < 18446744073709551616) (x : List UInt8) (hx : setL l at_ n v = x) (E : Int) (hE : setE l.length at_ n v = E) :
    Calls Try.prog 12 #[.slice A len c, .int .i64 at_, .int .i64 n, .int .u64 v] w fun e w' => ∃ A' c', e = .returned (.tuple #[.slice A' x.length c', .int .i64 E]) ∧ Bytes w' A' x.length c' x ∧ Ext w w' := by
  subst hx hE
  exact (set_any A len c l at_ n v w hb hl hv).mono fun e w' ⟨A', k, c', he, ho, hE⟩ => by
    have hB := Bytes.own ho
    obtain rfl := hB.len
    exact ⟨A', c', he, hB, hE⟩
theorem get_B (A : Option Addr) (len c : Nat) (l : List UInt8) (at_ n : Int) (w : World) (hb : Bytes w A len c l) (v : Nat) (hv : getV l at_ n = v) (E : Int) (hE : getE l.length at_ n = E) :
    Calls Try.prog 13 #[.slice A len c, .int .i64 at_, .int .i64 n] w fun e w' => e = .returned (.tuple #[.int .u64 v, .int .i64 E]) ∧ w = w' := by
  subst hv hE
  exact get_any A len c l at_ n w hb

set_option maxRecDepth 100000 in
set_option maxHeartbeats 1000000 in
theorem law_set (A : Option Addr) (len c : Nat) (l : List UInt8) (at_ n too m : Int) (v u : Nat) (w : World) (hb : Bytes w A len c l) (hv : v < 18446744073709551616) (hu : u < 18446744073709551616)
    (ha : -9223372036854775808 ≤ at_ ∧ at_ ≤ 9223372036854775807) (hn : -9223372036854775808 ≤ n ∧ n ≤ 9223372036854775807) :
    Calls Try.prog 3 #[.slice A len c, .int .i64 at_, .int .i64 n, .int .i64 too, .int .i64 m, .int .u64 v, .int .u64 u] w fun e w' => e = .returned (.bool true) ∧ Ext w w' := by
  by_cases hbig : 3000 < len
  · go_enter Try.func3, Try.ntmps3
    go_wp2_with fail
    refine (awake01 _).mono ?_
    rintro e w1 ⟨rfl, hE⟩
    go_wp2_with fail
    go_ret
    exact ⟨rfl, hE⟩
  · by_cases h0 : setE l.length at_ n v = 0
    · have hlen := hb.len
      obtain ⟨z1, z2, z3, z4, z5⟩ := setE_zero h0
      have p1 := setL_length h0
      obtain ⟨p2, p3⟩ := set_get h0
      obtain ⟨p4, p5, p6⟩ := set_back h0
      have p7 := fun i => set_else h0 i
      have hwas : getV l at_ n < 18446744073709551616 := by
        have h := getV_lt p4
        have h8 : 256 ^ n.toNat ≤ 256 ^ 8 := Nat.pow_le_pow_right (by omega) (by omega)
        omega
      obtain ⟨x, hx⟩ : ∃ x, setL l at_ n v = x := ⟨_, rfl⟩
      obtain ⟨was, hw⟩ : ∃ was, getV l at_ n = was := ⟨_, rfl⟩
      rw [hx] at p1 p2 p3 p5 p6 p7
      rw [hw] at p5 p6 hwas
      have S1 := hide (fun W A c hb => set_B A len c l at_ n v W hb (by omega) hv x hx 0 h0)
      have S2 := hide (fun W A c hb => get_B A len c x at_ n W hb v p3 0 p2)
      have S3 := hide (fun W A c hb => get_B A len c l at_ n W hb was hw 0 p4)
      have S4 := hide (fun W A c hb => set_B A len c x at_ n was W hb (by omega) hwas l p6 0 p5)
      have hxl : x.length = len := by omega
      have z6 : at_ + n ≤ (len : Int) := by omega
      clear p2 p3 p4 p5 p6 hw hwas
      have HX := hide hx
      have HL := hide hxl
      have HLL := hide hlen
      have HP := hide p7
      clear hx hxl hlen p7 p1
      go_enter Try.func3, Try.ntmps3
      go_wp2_with fail
      refine (awake01 _).mono ?_
      rintro e w1 ⟨rfl, hE⟩
      replace hb := hb.ext hE
      go_wp2_with fail
      refine (S1.out _ _ _ hb).mono ?_
      rintro e w2 ⟨A2, c2, rfl, hB2, hE2⟩
      replace hE := hE.trans hE2
      replace hb := hb.ext hE2
      clear hE2
      rw [HL.out] at hB2 ⊢
      go_wp2_with fail
      refine (S2.out _ _ _ hB2).mono ?_
      rintro e w2 ⟨rfl, rfl⟩
      go_wp2_with fail
      refine (S3.out _ _ _ hb).mono ?_
      rintro e w2 ⟨rfl, rfl⟩
      go_wp2_with fail
      refine (S4.out _ _ _ hB2).mono ?_
      rintro e w3 ⟨A3, c3, rfl, hB3, hE3⟩
      replace hE := hE.trans hE3
      replace hb := hb.ext hE3
      replace hB2 := hB2.ext hE3
      clear hE3
      rw [HLL.out] at hB3 ⊢
      have s1 := run_str hb
      have s2 := run_str hB3
      go_wp2_with fail
      clear S2 S3 S4 s1 s2 hB3
      go_loopw [23] (fun i wr => ∃ k : Nat, k ≤ len ∧ i = .int .i64 k ∧ Ext w3 wr) (fun i _ => len - (intOf i).toNat)
      case atStart => exact ⟨0, Nat.zero_le _, rfl, Ext.refl _⟩
      case round =>
        obtain ⟨k, hk, rfl, hEr⟩ := hrel
        replace hb := hb.ext hEr
        replace hB2 := hB2.ext hEr
        replace hE := hE.trans hEr
        by_cases hlt : k < len
        · obtain ⟨a1, rfl, _⟩ := hb.addr (by omega)
          obtain ⟨a2, rfl, _⟩ := hB2.addr (by omega)
          have hc1 := hb.cell hlt
          have hc2 := hB2.cell hlt
          have q1 : (0 : Int) ≤ (k : Int) := by omega
          have q2 : (k : Int) < (len : Int) := by omega
          have hxy : ((k : Int) < at_ ∨ n ≤ (k : Int) - at_) → x[k]'(by rw [HL.out]; exact hlt) = l[k]'(by rw [HLL.out]; exact hlt) := by
            intro g
            have := HP.out k g
            rw [List.getElem?_eq_getElem (by rw [HL.out]; exact hlt), List.getElem?_eq_getElem (by rw [HLL.out]; exact hlt)] at this
            injection this
          by_cases g1 : (k : Int) < at_
          · have d1 : decide ((k : Int) < at_) = true := by simpa using g1
            rw [hxy (.inl g1)] at hc2
            clear hxy
            go_wp2_with fail
            go_quiet (fail)
            go_wp2_with fail
            go_roundw
            case rel => exact ⟨k + 1, by omega, by go_num, hEr.drewN _⟩
            case measure => simp [intOf]; omega
          · have d1 : decide ((k : Int) < at_) = false := by simpa using g1
            by_cases g2 : n ≤ (k : Int) - at_
            · have d2 : decide (n ≤ (k : Int) - at_) = true := by simpa using g2
              rw [hxy (.inr g2)] at hc2
              clear hxy
              have d3 : IntKind.i64.wrap ((k : Int) - at_) = (k : Int) - at_ := IntWalk.i64_in _ (by omega)
              go_wp2_with fail
              go_quiet (fail)
              clear d3
              go_wp2_with fail
              go_roundw
              case rel => exact ⟨k + 1, by omega, by go_num, hEr.drewN _⟩
              case measure => simp [intOf]; omega
            · have d2 : decide (n ≤ (k : Int) - at_) = false := by simpa using g2
              clear hxy
              have d3 : IntKind.i64.wrap ((k : Int) - at_) = (k : Int) - at_ := IntWalk.i64_in _ (by omega)
              go_wp2_with fail
              go_quiet (fail)
              clear d3
              go_wp2_with fail
              go_roundw
              case rel => exact ⟨k + 1, by omega, by go_num, hEr.drewN _⟩
              case measure => simp [intOf]; omega
        · obtain rfl : k = len := by omega
          have hS : setE x.length too m u = setE l.length too m u := by rw [HL.out, HLL.out]
          have HS := hide hS
          clear hS
          by_cases k0 : setE l.length too m u = 0
          · obtain ⟨t1, t2, t3, t4, t5⟩ := setE_zero k0
            have t6 : too + m ≤ (k : Int) := by rw [HLL.out] at t5; exact t5
            have hy := setL_length (l := x) (at_ := too) (n := m) (v := u) (by rw [HS.out]; exact k0)
            have hz := setL_length k0
            rw [HL.out] at hy
            rw [HLL.out] at hz
            have T1 := hide (fun W A c hb => set_B A k c x too m u W hb (by omega) hu _ rfl 0 (by rw [HS.out]; exact k0))
            have T2 := hide (fun W A c hb => set_B A k c l too m u W hb (by omega) hu _ rfl 0 k0)
            have HY := hide hy
            have HZ := hide hz
            clear hy hz
            by_cases hd : too < at_ + n ∧ at_ < too + m
            · obtain ⟨hd1, hd2⟩ := hd
              go_wp2_with fail
              refine (T1.out _ _ _ hB2).mono ?_
              rintro e w4 ⟨A4, c4, rfl, hB4, hE4⟩
              replace hE := hE.trans hE4
              replace hb := hb.ext hE4
              clear hE4
              rw [HY.out] at hB4 ⊢
              go_wp2_with fail
              refine (T2.out _ _ _ hb).mono ?_
              rintro e w5 ⟨A5, c5, rfl, hB5, hE5⟩
              replace hE := hE.trans hE5
              clear hE5
              rw [HZ.out] at hB5 ⊢
              go_wp2_with fail
              go_ret
              exact ⟨rfl, hE⟩
            · obtain ⟨m1, m2⟩ := set_comm h0 k0 hd
              rw [HX.out] at m2
              have T3 := hide (fun W A c hb => set_B A (setL l too m u).length c (setL l too m u) at_ n v W hb (by rw [HZ.out]; omega) hv _ m2.symm 0 m1)
              clear m1 m2
              have hd0 : too < at_ + n → too + m ≤ at_ := by omega
              clear hd
              by_cases hd1 : too < at_ + n
              all_goals
                first | replace hd0 := hd0 hd1 | clear hd0
                go_wp2_with fail
                refine (T1.out _ _ _ hB2).mono ?_
                rintro e w4 ⟨A4, c4, rfl, hB4, hE4⟩
                replace hE := hE.trans hE4
                replace hb := hb.ext hE4
                clear hE4
                go_wp2_with fail
                refine (T2.out _ _ _ hb).mono ?_
                rintro e w5 ⟨A5, c5, rfl, hB5, hE5⟩
                replace hE := hE.trans hE5
                replace hB4 := hB4.ext hE5
                clear hE5
                go_wp2_with fail
                refine (T3.out _ _ _ hB5).mono ?_
                rintro e w6 ⟨A6, c6, rfl, hB6, hE6⟩
                replace hE := hE.trans hE6
                replace hB4 := hB4.ext hE6
                clear hE6
                have s1 := run_str hB4
                have s2 := run_str hB6
                go_wp2_with fail
                go_ret
                exact ⟨rfl, hE⟩
          · have e1 := setL_fail k0
            have e2 := setL_fail (l := x) (at_ := too) (n := m) (v := u) (by rw [HS.out]; exact k0)
            obtain ⟨E, hEq⟩ : ∃ E, setE l.length too m u = E := ⟨_, rfl⟩
            rw [hEq] at k0 HS
            have T1 := hide (fun W A c hb => set_B A k c x too m u W hb (by omega) hu _ e2 E HS.out)
            have T2 := hide (fun W A c hb => set_B A k c l too m u W hb (by omega) hu _ e1 E hEq)
            have hne : (E != 0) = true := by rw [bne_iff_ne]; exact k0
            clear e1 e2 hEq k0 h0
            go_wp2_with fail
            refine (T1.out _ _ _ hB2).mono ?_
            rintro e w4 ⟨A4, c4, rfl, hB4, hE4⟩
            replace hE := hE.trans hE4
            replace hb := hb.ext hE4
            clear hE4
            go_wp2_with fail
            refine (T2.out _ _ _ hb).mono ?_
            rintro e w5 ⟨A5, c5, rfl, hB5, hE5⟩
            replace hE := hE.trans hE5
            clear hE5
            go_wp2_with fail
            go_ret
            exact ⟨rfl, hE⟩
    · have hx := setL_fail h0
      obtain ⟨E, hEq⟩ : ∃ E, setE l.length at_ n v = E := ⟨_, rfl⟩
      have h1 : (E != 0) = true := by rw [← hEq, bne_iff_ne]; exact h0
      have S := hide (fun W A c hb => set_B A len c l at_ n v W hb (by omega) hv [] hx E hEq)
      clear hx hEq h0
      go_enter Try.func3, Try.ntmps3
      go_wp2_with fail
      refine (awake01 _).mono ?_
      rintro e w1 ⟨rfl, hE⟩
      replace hb := hb.ext hE
      go_wp2_with fail
      refine (S.out _ _ _ hb).mono ?_
      rintro e w2 ⟨A2, c2, rfl, hB2, hE2⟩
      replace hE := hE.trans hE2
      clear hE2
      go_wp2_with fail
      go_ret
      exact ⟨rfl, hE⟩
end Go.Proofs.Ytiamcdbnhmlhaaa

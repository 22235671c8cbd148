/- OctetBack: the walk. -/
import Derived.Test.YtiamcdbnhmlhaaaLawSet
import Derived.Test.YtiamcdbnhmlhaaaLawJoin
import Derived.Deep.DeepCutAuto
namespace Go.Proofs.Ytiamcdbnhmlhaaa
open Go.RowKit

theorem put_B (v : Nat) (n : Int) (w : World) (hv : v < 18446744073709551616) (x : List UInt8) (hx : putL v n = x) (E : Int) (hE : putE v n = E) :
    Calls Try.prog 23 #[.int .u64 v, .int .i64 n] w fun e w' => ∃ A c, e = .returned (.tuple #[.slice A x.length c, .int .i64 E]) ∧ Bytes w' A x.length c x ∧ Ext w w' := by
  subst hx hE
  exact (put_any v n w hv).mono fun e w' ⟨A', k, c', he, ho, hE⟩ => by
    have hB := Bytes.own ho
    obtain rfl := hB.len
    exact ⟨A', c', he, hB, hE⟩
theorem psigned_B (v : Int) (n : Int) (w : World) (h3 : -9223372036854775808 ≤ v) (h4 : v ≤ 9223372036854775807) (x : List UInt8) (hx : psL v n = x) (E : Int) (hE : psE v n = E) :
    Calls Try.prog 24 #[.int .i64 v, .int .i64 n] w fun e w' => ∃ A c, e = .returned (.tuple #[.slice A x.length c, .int .i64 E]) ∧ Bytes w' A x.length c x ∧ Ext w w' := by
  subst hx hE
  exact (psigned_any v n w h3 h4).mono fun e w' ⟨A', k, c', he, ho, hE⟩ => by
    have hB := Bytes.own ho
    obtain rfl := hB.len
    exact ⟨A', c', he, hB, hE⟩
theorem signed_B (A : Option Addr) (len c : Nat) (l : List UInt8) (at_ n : Int) (w : World) (hb : Bytes w A len c l) (v : Int) (hv : sgV l at_ n = v) (E : Int) (hE : getE l.length at_ n = E) :
    Calls Try.prog 25 #[.slice A len c, .int .i64 at_, .int .i64 n] w fun e w' => e = .returned (.tuple #[.int .i64 v, .int .i64 E]) ∧ w = w' := by
  subst hv hE
  exact signed_any A len c l at_ n w hb

set_option maxRecDepth 100000 in
set_option maxHeartbeats 2000000 in
theorem law_back (A : Option Addr) (len c : Nat) (l : List UInt8) (at_ n : Int) (v u : Nat) (s : Int) (w : World) (hb : Bytes w A len c l) (hv : v < 18446744073709551616) (hu : u < 18446744073709551616)
    (hs : -9223372036854775808 ≤ s ∧ s ≤ 9223372036854775807) :
    Calls Try.prog 7 #[.slice A len c, .int .i64 at_, .int .i64 n, .int .u64 v, .int .u64 u, .int .i64 s] w fun e w' => e = .returned (.bool true) ∧ Ext w w' := by
  by_cases hbig : 3000 < len
  · go_enter Try.func7, Try.ntmps7
    go_wp2_with fail
    refine (awake01 _).mono ?_
    rintro e w1 ⟨rfl, hE⟩
    go_wp2_with fail
    go_ret
    exact ⟨rfl, hE⟩
  · have hlen := hide hb.len
    go_enter Try.func7, Try.ntmps7
    go_wp2_with fail
    refine (awake01 _).mono ?_
    rintro e w1 ⟨rfl, hE⟩
    replace hb := hb.ext hE
    go_wp2_with fail
    obtain ⟨E, hEq⟩ : ∃ E, putE v n = E := ⟨_, rfl⟩
    obtain ⟨x, hx⟩ : ∃ x, putL v n = x := ⟨_, rfl⟩
    refine (put_B v n _ hv x hx E hEq).mono ?_
    have HEq := hide hEq
    have HX := hide hx
    clear hEq hx
    rintro e w2 ⟨A2, c2, rfl, hB2, hE2⟩
    replace hE := hE.trans hE2
    replace hb := hb.ext hE2
    clear hE2
    go_upto_if 41 with fail
    go_cut [] (fun wx => Ext w2 wx)
    case first =>
      by_cases h0 : E = 0
      · subst h0
        obtain ⟨z1, z2, z3⟩ := putE_zero HEq.out
        have p1 := putL_length HEq.out
        obtain ⟨p2, p3⟩ := put_get l l HEq.out
        have p4 : ∀ u : Nat, putE u n = 0 → (x == putL u n) = (v == u) := fun u k => by rw [← HX.out]; exact put_inj HEq.out k
        rw [HX.out] at p1 p2 p3
        have hlx : (x.length : Int) = n := by omega
        have e1 : ((x.length : Int) != n) = false := by rw [bne_eq_false_iff_eq]; exact hlx
        have hlx8 : x.length ≤ 8 := by omega
        have hcat : cat [l, x, l] = l ++ x ++ l := by simp [cat]
        have hcl : (cat [l, x, l]).length ≤ 70368744177664 := by
          rw [hcat]
          have := hlen.out
          simp
          omega
        obtain ⟨j, hj⟩ : ∃ j, l ++ x ++ l = j := ⟨_, rfl⟩
        rw [hj] at hcat p2 p3
        have S1 := hide (fun W A c h => join_B A 3 c [l, x, l] W h hcl j hcat)
        have S2 := hide (fun W A c hb => get_B A j.length c j len n W hb v (by rw [← hlen.out]; exact p3) 0 (by rw [← hlen.out]; exact p2))
        obtain ⟨F, hF⟩ : ∃ F, putE u n = F := ⟨_, rfl⟩
        obtain ⟨y, hy⟩ : ∃ y, putL u n = y := ⟨_, rfl⟩
        have S3 := hide (fun W => put_B u n W hu y hy F hF)
        have p5 : F = 0 → (x == y) = (v == u) := fun h => by rw [← hy]; exact p4 u (by rw [hF, h])
        have HP := hide p5
        clear p1 p2 p3 p4 p5 hlx hcat hcl hF hy hj
        have hS := Slices.lit (ls := [l, x, l]) (vs := [.slice A len c, .slice A2 x.length c2, .slice A len c]) 22 3 rfl (by omega) ⟨hb, hB2, hb, trivial⟩
        have hE3 : Ext w2 (w2.alloc (.cells [.slice A len c, .slice A2 x.length c2, .slice A len c].toArray 22)) := (Ext.refl _).alloc _
        go_wp2_with fail
        refine (S1.out _ _ _ hS).mono ?_
        rintro e w3 ⟨A3, c3, rfl, hB3, hE4⟩
        replace hE3 := hE3.trans hE4
        clear hE4 hS S1
        go_wp2_with fail
        refine (S2.out _ _ _ hB3).mono ?_
        rintro e w4 ⟨rfl, rfl⟩
        clear S2 hB3
        go_wp2_with fail
        refine (S3.out _).mono ?_
        rintro e w4 ⟨A4, c4, rfl, hB4, hE4⟩
        have s1 := run_str hB4
        have s2 := run_str (hB2.ext (hE3.trans hE4))
        by_cases f0 : F = 0
        · subst f0
          have g := HP.out rfl
          by_cases g1 : v = u
          · have g2 : (v == u) = true := beq_iff_eq.2 g1
            rw [g2] at g
            subst g1
            clear g2
            go_wp2_with fail
            go_meet
            case rel => exact hE3.trans hE4
          · have g2 : (v == u) = false := beq_eq_false_iff_ne.2 g1
            have g3 : ((v : Int) == (u : Int)) = false := beq_eq_false_iff_ne.2 (by omega)
            rw [g2] at g
            clear g2
            go_wp2_with fail
            go_meet
            case rel => exact hE3.trans hE4
        · have f1 : (F == 0) = false := beq_eq_false_iff_ne.2 f0
          go_wp2_with fail
          go_meet
          case rel => exact hE3.trans hE4
      · have hne : (E == 0) = false := beq_eq_false_iff_ne.2 h0
        go_wp2_with fail
        go_meet
        case rel => exact Ext.refl _
    case rest =>
      replace hE := hE.trans hcut
      replace hb := hb.ext hcut
      clear hcut HEq HX hB2
      obtain ⟨E2, hEq⟩ : ∃ E, psE s n = E := ⟨_, rfl⟩
      obtain ⟨x2, hx⟩ : ∃ x, psL s n = x := ⟨_, rfl⟩
      have HEq := hide hEq
      have HX := hide hx
      clear hEq hx
      go_wp2_with fail
      refine (psigned_B s n _ hs.1 hs.2 x2 HX.out E2 HEq.out).mono ?_
      rintro e w3 ⟨A3, c3, rfl, hB3, hE3⟩
      replace hE := hE.trans hE3
      replace hb := hb.ext hE3
      clear hE3
      go_upto_if 95 with fail
      go_cut [] (fun wx => Ext w3 wx)
      case first =>
        by_cases h0 : E2 = 0
        · subst h0
          obtain ⟨z1, z2, z3⟩ := psE_zero HEq.out
          have p1 := psL_length HEq.out
          obtain ⟨p2, p3⟩ := ps_get l HEq.out
          rw [HX.out] at p1 p2 p3
          have hlx : (x2.length : Int) = n := by omega
          have e1 : ((x2.length : Int) != n) = false := by rw [bne_eq_false_iff_eq]; exact hlx
          have hlx8 : x2.length ≤ 8 := by omega
          have hcat : cat [l, x2] = l ++ x2 := by simp [cat]
          have hcl : (cat [l, x2]).length ≤ 70368744177664 := by
            rw [hcat]
            have := hlen.out
            simp
            omega
          obtain ⟨j, hj⟩ : ∃ j, l ++ x2 = j := ⟨_, rfl⟩
          rw [hj] at hcat p2 p3
          have S1 := hide (fun W A c h => join_B A 2 c [l, x2] W h hcl j hcat)
          have S2 := hide (fun W A c hb => signed_B A j.length c j len n W hb s (by rw [← hlen.out]; exact p3) 0 (by rw [← hlen.out]; exact p2))
          clear p1 p2 p3 hlx hcat hcl z3 hj
          have hS := Slices.lit (ls := [l, x2]) (vs := [.slice A len c, .slice A3 x2.length c3]) 22 2 rfl (by omega) ⟨hb, hB3, trivial⟩
          have hE3 : Ext w3 (w3.alloc (.cells [.slice A len c, .slice A3 x2.length c3].toArray 22)) := (Ext.refl _).alloc _
          go_wp2_with fail
          refine (S1.out _ _ _ hS).mono ?_
          rintro e w4 ⟨A4, c4, rfl, hB4, hE4⟩
          replace hE3 := hE3.trans hE4
          clear hE4 hS S1
          go_wp2_with fail
          refine (S2.out _ _ _ hB4).mono ?_
          rintro e w5 ⟨rfl, rfl⟩
          go_wp2_with fail
          go_meet
          case rel => exact hE3
        · have hne : (E2 == 0) = false := beq_eq_false_iff_ne.2 h0
          go_wp2_with fail
          go_meet
          case rel => exact Ext.refl _
      case rest =>
        replace hE := hE.trans hcut
        replace hb := hb.ext hcut
        clear hcut HEq HX hB3
        by_cases h0 : getE l.length at_ n = 0
        · obtain ⟨q1, q2, q3, q4, q5⟩ := get_put h0
          have q6 := sgV_range h0
          have q7 : getV l at_ n < 18446744073709551616 := by
            have h := getV_lt h0
            obtain ⟨t1, t2, t3, t4⟩ := getE_zero h0
            have h8 : 256 ^ n.toNat ≤ 256 ^ 8 := Nat.pow_le_pow_right (by omega) (by omega)
            omega
          have T1 := hide (fun W A c hb => get_B A len c l at_ n W hb _ rfl 0 h0)
          have T2 := hide (fun W A c hb => signed_B A len c l at_ n W hb _ rfl 0 h0)
          have T3 := hide (fun W => put_B (getV l at_ n) n W q7 _ q3 0 q2)
          have T4 := hide (fun W => psigned_B (sgV l at_ n) n W q6.1 q6.2 _ q5 0 q4)
          have T5 := hide (fun W A c hb => part_B A len c l at_ n W hb (by omega) _ rfl 0 q1)
          clear q1 q2 q3 q4 q5 q6 q7 h0
          go_wp2_with fail
          refine (T1.out _ _ _ hb).mono ?_
          rintro e w4 ⟨rfl, rfl⟩
          go_wp2_with fail
          refine (T2.out _ _ _ hb).mono ?_
          rintro e w4 ⟨rfl, rfl⟩
          go_wp2_with fail
          refine (T3.out _).mono ?_
          rintro e w4 ⟨A4, c4, rfl, hB4, hE4⟩
          replace hE := hE.trans hE4
          replace hb := hb.ext hE4
          clear hE4
          go_wp2_with fail
          refine (T4.out _).mono ?_
          rintro e w5 ⟨A5, c5, rfl, hB5, hE5⟩
          replace hE := hE.trans hE5
          replace hb := hb.ext hE5
          replace hB4 := hB4.ext hE5
          clear hE5
          go_wp2_with fail
          refine (T5.out _ _ _ hb).mono ?_
          rintro e w6 ⟨A6, c6, rfl, hB6, hE6⟩
          replace hE := hE.trans hE6
          replace hB4 := hB4.ext hE6
          replace hB5 := hB5.ext hE6
          clear hE6
          have s1 := run_str hB4
          have s2 := run_str hB5
          have s3 := run_str hB6
          go_wp2_with fail
          go_ret
          exact ⟨rfl, hE⟩
        · obtain ⟨q1, q2⟩ := get_fail h0
          obtain ⟨F, hF⟩ : ∃ F, getE l.length at_ n = F := ⟨_, rfl⟩
          rw [hF] at h0
          have T1 := hide (fun W A c hb => get_B A len c l at_ n W hb _ q1 F hF)
          have T2 := hide (fun W A c hb => signed_B A len c l at_ n W hb _ q2 F hF)
          have hne : (F != 0) = true := bne_iff_ne.2 h0
          clear q1 q2 hF h0
          go_wp2_with fail
          refine (T1.out _ _ _ hb).mono ?_
          rintro e w4 ⟨rfl, rfl⟩
          go_wp2_with fail
          refine (T2.out _ _ _ hb).mono ?_
          rintro e w4 ⟨rfl, rfl⟩
          go_wp2_with fail
          go_ret
          exact ⟨rfl, hE⟩
end Go.Proofs.Ytiamcdbnhmlhaaa

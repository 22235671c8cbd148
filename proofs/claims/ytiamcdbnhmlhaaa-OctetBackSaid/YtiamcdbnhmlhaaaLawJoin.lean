/- OctetJoin: the walk. -/
import Derived.Test.YtiamcdbnhmlhaaaAwake01
import Derived.Test.YtiamcdbnhmlhaaaReg
import Derived.Test.YtiamcdbnhmlhaaaPlainOct2
namespace Go.Proofs.Ytiamcdbnhmlhaaa
open Go.RowKit

/-- octet.Part, for the walk of a law. -/
theorem part_B (A : Option Addr) (len c : Nat) (l : List UInt8) (at_ n : Int) (w : World) (hb : Bytes w A len c l) (hl : len ≤ 35184372088832) (x : List UInt8) (hx : partL l at_ n = x) (E : Int) (hE : partE l.length at_ n = E) :
    Calls Try.prog 21 #[.slice A len c, .int .i64 at_, .int .i64 n] w fun e w' => ∃ A' c', e = .returned (.tuple #[.slice A' x.length c', .int .i64 E]) ∧ Bytes w' A' x.length c' x ∧ Ext w w' := by
  subst hx hE
  exact (part_any A len c l at_ n w hb hl).mono fun e w' ⟨A', k, c', he, ho, hE⟩ => by
    have hB := Bytes.own ho
    obtain rfl := hB.len
    exact ⟨A', c', he, hB, hE⟩
/-- octet.Join, for the walk of a law. -/
theorem join_B (A : Option Addr) (k c : Nat) (ls : List (List UInt8)) (w : World) (h : Slices w A k c ls) (hn : (cat ls).length ≤ 70368744177664) (x : List UInt8) (hx : cat ls = x) :
    Calls Try.prog 22 #[.slice A k c] w fun e w' => ∃ A' c', e = .returned (.slice A' x.length c') ∧ Bytes w' A' x.length c' x ∧ Ext w w' := by
  subst hx
  exact (join_any A k c ls w h hn).mono fun e w' ⟨A', c', he, ho, hE⟩ => ⟨A', c', he, Bytes.own ho, hE⟩

set_option maxRecDepth 100000 in
set_option maxHeartbeats 1000000 in
theorem law_join (A : Option Addr) (len c : Nat) (l : List UInt8) (at_ n in_ m : Int) (w : World) (hb : Bytes w A len c l)
    (hi : -9223372036854775808 ≤ in_ ∧ in_ ≤ 9223372036854775807) :
    Calls Try.prog 6 #[.slice A len c, .int .i64 at_, .int .i64 n, .int .i64 in_, .int .i64 m] w fun e w' => e = .returned (.bool true) ∧ Ext w w' := by
  by_cases hbig : 3000 < len
  · go_enter Try.func6, Try.ntmps6
    go_wp2_with fail
    refine (awake01 _).mono ?_
    rintro e w1 ⟨rfl, hE⟩
    go_wp2_with fail
    go_ret
    exact ⟨rfl, hE⟩
  · by_cases h0 : partE l.length at_ n = 0
    · have hlen := hb.len
      obtain ⟨z1, z2, z3⟩ := partE_zero h0
      obtain ⟨p1, p2, p3⟩ := part_join h0
      have p4 := partL_length h0
      have p5 : ∀ in_ m : Int, partE (partL l at_ n).length in_ m = 0 → partE l.length (at_ + in_) m = 0 ∧ partL l (at_ + in_) m = partL (partL l at_ n) in_ m := fun _ _ k => part_part h0 k
      rw [hlen] at p2 p3 z3
      obtain ⟨x, hx⟩ : ∃ x, partL l at_ n = x := ⟨_, rfl⟩
      obtain ⟨a, ha⟩ : ∃ x, partL l 0 at_ = x := ⟨_, rfl⟩
      obtain ⟨z, hz⟩ : ∃ x, partL l (at_ + n) (len - at_ - n) = x := ⟨_, rfl⟩
      rw [hx, ha, hz] at p3
      rw [hx] at p4 p5
      have hlx : (x.length : Int) = n := by omega
      have S1 := hide (fun W A c hb => part_B A len c l at_ n W hb (by omega) x hx 0 h0)
      have S2 := hide (fun W A c hb => part_B A len c l 0 at_ W hb (by omega) a ha 0 p1)
      have S3 := hide (fun W A c hb => part_B A len c l (at_ + n) (len - at_ - n) W hb (by omega) z hz 0 (by rw [hlen]; exact p2))
      have P3 := hide p3
      have HLX := hide hlx
      have HL := hide hlen
      have HPP := hide p5
      clear hx ha hz p1 p2 p3 p4 p5 hlx hlen h0
      go_enter Try.func6, Try.ntmps6
      go_wp2_with fail
      refine (awake01 _).mono ?_
      rintro e w1 ⟨rfl, hE⟩
      replace hb := hb.ext hE
      go_wp2_with fail
      refine (S1.out _ _ _ hb).mono ?_
      rintro e w2 ⟨A2, c2, rfl, hB2, hE2⟩
      replace hE := hE.trans hE2
      replace hb := hb.ext hE2
      clear hE2
      go_wp2_with fail
      refine (S2.out _ _ _ hb).mono ?_
      rintro e w3 ⟨A3, c3, rfl, hB3, hE3⟩
      replace hE := hE.trans hE3
      replace hb := hb.ext hE3
      replace hB2 := hB2.ext hE3
      clear hE3
      go_wp2_with fail
      refine (S3.out _ _ _ hb).mono ?_
      rintro e w4 ⟨A4, c4, rfl, hB4, hE4⟩
      replace hE := hE.trans hE4
      replace hb := hb.ext hE4
      replace hB2 := hB2.ext hE4
      replace hB3 := hB3.ext hE4
      clear hE4 S1 S2 S3
      go_wp2_with fail
      have e1 : ((x.length : Int) != n) = false := by rw [bne_eq_false_iff_eq]; exact HLX.out
      have hS := (Slices.lit (ls := [a, x, z]) (vs := [.slice A3 a.length c3, .slice A2 x.length c2, .slice A4 z.length c4]) 22 3 rfl (by omega) ⟨hB3, hB2, hB4, trivial⟩).drew
      have HB : (cat [a, x, z]).length ≤ 70368744177664 := by rw [P3.out, HL.out]; omega
      have hEr : Ext w4 (w4.alloc (.cells #[.slice A3 a.length c3, .slice A2 x.length c2, .slice A4 z.length c4] 22)).drew := ((Ext.refl _).alloc _).drew
      refine regE_start (by kernel_rfl) ?_
      refine regE_take (i := 0) (v := ?_) rfl (by kernel_rfl) (by kernel_rfl) (by kernel_rfl) (fun _ _ _ h => h) (by rfl) ?_ ?_
      rotate_left
      · intro W hW; go_simp; try with_reducible rfl
      simp only [Act.put, List.setIfInBounds_toArray, List.set_cons_zero, List.set_cons_succ]
      refine regE_take (i := 1) (v := ?_) rfl (by kernel_rfl) (by kernel_rfl) (by kernel_rfl) (fun _ _ _ h => h) (by rfl) ?_ ?_
      rotate_left
      · intro W hW; go_simp; try with_reducible rfl
      simp only [Act.put, List.setIfInBounds_toArray, List.set_cons_zero, List.set_cons_succ]
      refine regE_take (i := 2) (v := ?_) rfl (by kernel_rfl) (by kernel_rfl) (by kernel_rfl) (fun _ _ _ h => h) (by rfl) ?_ ?_
      rotate_left
      · intro W hW; go_simp; try with_reducible rfl
      simp only [Act.put, List.setIfInBounds_toArray, List.set_cons_zero, List.set_cons_succ]
      refine regE_take (i := 3) (v := ?_) rfl (by kernel_rfl) (by kernel_rfl) (by kernel_rfl) (fun _ _ _ h => h) (by rfl) ?_ ?_
      rotate_left
      · intro W hW; go_simp; try with_reducible rfl
      simp only [Act.put, List.setIfInBounds_toArray, List.set_cons_zero, List.set_cons_succ]
      refine regE_take (i := 4) (v := ?_) rfl (by kernel_rfl) (by kernel_rfl) (by kernel_rfl) (fun _ _ _ h => h) (by rfl) ?_ ?_
      rotate_left
      · intro W hW; go_simp; try with_reducible rfl
      simp only [Act.put, List.setIfInBounds_toArray, List.set_cons_zero, List.set_cons_succ]
      refine regE_take (i := 5) (v := ?_) rfl (by kernel_rfl) (by kernel_rfl) (by kernel_rfl) (fun _ _ _ h => h) (by rfl) ?_ ?_
      rotate_left
      · intro W hW; go_simp; try with_reducible rfl
      simp only [Act.put, List.setIfInBounds_toArray, List.set_cons_zero, List.set_cons_succ]
      refine regE_take (i := 6) (v := ?_) rfl (by kernel_rfl) (by kernel_rfl) (by kernel_rfl) (fun _ _ _ h => h) (by rfl) ?_ ?_
      rotate_left
      · intro W hW; go_simp; try with_reducible rfl
      simp only [Act.put, List.setIfInBounds_toArray, List.set_cons_zero, List.set_cons_succ]
      refine regE_take (i := 7) (v := ?_) rfl (by kernel_rfl) (by kernel_rfl) (by kernel_rfl) (fun _ _ _ h => h) (by rfl) ?_ ?_
      rotate_left
      · intro W hW; go_simp; try with_reducible rfl
      simp only [Act.put, List.setIfInBounds_toArray, List.set_cons_zero, List.set_cons_succ]
      refine regE_take (i := 8) (v := ?_) rfl (by kernel_rfl) (by kernel_rfl) (by kernel_rfl) (fun _ _ _ h => h) (by rfl) ?_ ?_
      rotate_left
      · intro W hW; go_simp; try with_reducible rfl
      simp only [Act.put, List.setIfInBounds_toArray, List.set_cons_zero, List.set_cons_succ]
      refine regE_take (i := 9) (v := ?_) rfl (by kernel_rfl) (by kernel_rfl) (by kernel_rfl) (fun _ _ _ h => h) (by rfl) ?_ ?_
      rotate_left
      · intro W hW; go_simp; try with_reducible rfl
      simp only [Act.put, List.setIfInBounds_toArray, List.set_cons_zero, List.set_cons_succ]
      refine regE_take (i := 10) (v := ?_) rfl (by kernel_rfl) (by kernel_rfl) (by kernel_rfl) (fun _ _ _ h => h) (by rfl) ?_ ?_
      rotate_left
      · intro W hW; go_simp; try with_reducible rfl
      simp only [Act.put, List.setIfInBounds_toArray, List.set_cons_zero, List.set_cons_succ]
      refine regE_take (i := 11) (v := ?_) rfl (by kernel_rfl) (by kernel_rfl) (by kernel_rfl) (fun _ _ _ h => h) (by rfl) ?_ ?_
      rotate_left
      · intro W hW; go_simp; try with_reducible rfl
      simp only [Act.put, List.setIfInBounds_toArray, List.set_cons_zero, List.set_cons_succ]
      refine regE_take (i := 12) (v := ?_) rfl (by kernel_rfl) (by kernel_rfl) (by kernel_rfl) (fun _ _ _ h => h) (by rfl) ?_ ?_
      rotate_left
      · intro W hW; go_simp; try with_reducible rfl
      simp only [Act.put, List.setIfInBounds_toArray, List.set_cons_zero, List.set_cons_succ]
      refine regE_take (i := 13) (v := ?_) rfl (by kernel_rfl) (by kernel_rfl) (by kernel_rfl) (fun _ _ _ h => h) (by rfl) ?_ ?_
      rotate_left
      · intro W hW; go_simp; try with_reducible rfl
      simp only [Act.put, List.setIfInBounds_toArray, List.set_cons_zero, List.set_cons_succ]
      refine regE_take (i := 14) (v := ?_) rfl (by kernel_rfl) (by kernel_rfl) (by kernel_rfl) (fun _ _ _ h => h) (by rfl) ?_ ?_
      rotate_left
      · intro W hW; go_simp; try with_reducible rfl
      simp only [Act.put, List.setIfInBounds_toArray, List.set_cons_zero, List.set_cons_succ]
      refine regE_take (i := 15) (v := ?_) rfl (by kernel_rfl) (by kernel_rfl) (by kernel_rfl) (fun _ _ _ h => h) (by rfl) ?_ ?_
      rotate_left
      · intro W hW; go_simp; try with_reducible rfl
      simp only [Act.put, List.setIfInBounds_toArray, List.set_cons_zero, List.set_cons_succ]
      refine regE_take (i := 19) (v := ?_) rfl (by kernel_rfl) (by kernel_rfl) (by kernel_rfl) (fun _ _ _ h => h) (by rfl) ?_ ?_
      rotate_left
      · intro W hW; go_simp; try with_reducible rfl
      simp only [Act.put, List.setIfInBounds_toArray, List.set_cons_zero, List.set_cons_succ]
      refine regE_take (i := 20) (v := ?_) rfl (by kernel_rfl) (by kernel_rfl) (by kernel_rfl) (fun _ _ _ h => h) (by rfl) ?_ ?_
      rotate_left
      · intro W hW; have s1 := run_str (hb.drew.ext hW); go_simp; try with_reducible rfl
      simp only [Act.put, List.setIfInBounds_toArray, List.set_cons_zero, List.set_cons_succ]
      refine regE_do (i := 16) rfl (by kernel_rfl) (fun K hK => ?_)
      rw [if_pos (by rfl)]
      go_simp
      refine hK.out _ _ ((Ext.refl _).alloc _) ?_
      clear hK K
      try simp only [Act.put, List.setIfInBounds_toArray, List.set_cons_zero, List.set_cons_succ]
      refine regE_do (i := 17) rfl (by kernel_rfl) (fun K hK => ?_)
      rw [if_pos (by rfl)]
      go_simp
      refine (join_B _ _ _ _ _ hS HB l P3.out).mono ?_
      rintro e w5 ⟨A5, c5, rfl, hB5, hE5⟩
      refine hK.out _ _ hE5 ?_
      clear hK K
      try simp only [Act.put, List.setIfInBounds_toArray, List.set_cons_zero, List.set_cons_succ]
      refine regE_take (i := 18) (v := ?_) rfl (by kernel_rfl) (by kernel_rfl) (by kernel_rfl) (fun _ _ _ h => h) (by rfl) ?_ ?_
      rotate_left
      · intro W hW; have s1 := run_str (hB5.ext hW); go_simp; try with_reducible rfl
      simp only [Act.put, List.setIfInBounds_toArray, List.set_cons_zero, List.set_cons_succ]
      refine regE_take (i := 21) (v := ?_) rfl (by kernel_rfl) (by kernel_rfl) (by kernel_rfl) (fun _ _ _ h => h) (by rfl) ?_ ?_
      rotate_left
      · intro W hW; go_simp; try with_reducible rfl
      simp only [Act.put, List.setIfInBounds_toArray, List.set_cons_zero, List.set_cons_succ]
      refine regE_take (i := 22) (v := ?_) rfl (by kernel_rfl) (by kernel_rfl) (by kernel_rfl) (fun _ _ _ h => h) (by rfl) ?_ ?_
      rotate_left
      · intro W hW; go_simp; try with_reducible rfl
      simp only [Act.put, List.setIfInBounds_toArray, List.set_cons_zero, List.set_cons_succ]
      refine regE_done (by kernel_rfl) ?_
      replace hE := hE.trans (hEr.trans hE5)
      replace hb := hb.ext (hEr.trans hE5)
      replace hB2 := hB2.ext (hEr.trans hE5)
      clear hE5 hS HB hEr hB3 hB4 hB5
      by_cases k0 : partE x.length in_ m = 0
      · obtain ⟨q1, q2⟩ := HPP.out _ _ k0
        obtain ⟨r1, r2, r3⟩ := partE_zero k0
        have r4 := HLX.out
        have r5 : 0 ≤ at_ + in_ ∧ at_ + in_ ≤ 3000 := by omega
        clear r4
        have T1 := hide (fun W A c hb => part_B A x.length c x in_ m W hb (by have := HLX.out; omega) _ rfl 0 k0)
        have T2 := hide (fun W A c hb => part_B A len c l (at_ + in_) m W hb (by omega) _ q2 0 q1)
        clear q1 q2 k0 e1 r1 r3
        go_wp2_with fail
        refine (T1.out _ _ _ hB2).mono ?_
        rintro e w6 ⟨A6, c6, rfl, hB6, hE6⟩
        replace hE := hE.trans hE6
        replace hb := hb.ext hE6
        clear hE6
        go_wp2_with fail
        refine (T2.out _ _ _ hb).mono ?_
        rintro e w7 ⟨A7, c7, rfl, hB7, hE7⟩
        replace hE := hE.trans hE7
        replace hB6 := hB6.ext hE7
        clear hE7
        have s1 := run_str hB6
        have s2 := run_str hB7
        go_wp2_with fail
        go_ret
        exact ⟨rfl, hE⟩
      · have q := partL_fail k0
        obtain ⟨E, hEq⟩ : ∃ E, partE x.length in_ m = E := ⟨_, rfl⟩
        have T1 := hide (fun W A c hb => part_B A x.length c x in_ m W hb (by have := HLX.out; omega) _ q E hEq)
        rw [hEq] at k0
        have hne : (E != 0) = true := by rw [bne_iff_ne]; exact k0
        clear q hEq k0 e1
        go_wp2_with fail
        refine (T1.out _ _ _ hB2).mono ?_
        rintro e w6 ⟨A6, c6, rfl, hB6, hE6⟩
        replace hE := hE.trans hE6
        clear hE6
        go_wp2_with fail
        go_ret
        exact ⟨rfl, hE⟩
    · have q := partL_fail h0
      have hE1 : (at_ < 0 ∨ n < 0) → partE l.length at_ n = 1 := fun h => by unfold partE; rw [if_pos (by omega)]
      have hE2 : ¬ (at_ < 0 ∨ n < 0) → partE l.length at_ n = 2 := fun h => by
        unfold partE at h0 ⊢
        rw [if_neg (by omega)] at h0 ⊢
        by_cases h2 : (l.length : Int) < at_ + n
        · rw [if_pos h2]
        · rw [if_neg h2] at h0
          exact absurd rfl h0
      by_cases g1 : at_ < 0
      · have S1 := hide (fun W A c hb => part_B A len c l at_ n W hb (by omega) [] q 1 (hE1 (.inl g1)))
        clear hE1 hE2 q h0
        go_enter Try.func6, Try.ntmps6
        go_wp2_with fail
        refine (awake01 _).mono ?_
        rintro e w1 ⟨rfl, hE⟩
        replace hb := hb.ext hE
        go_wp2_with fail
        refine (S1.out _ _ _ hb).mono ?_
        rintro e w2 ⟨A2, c2, rfl, hB2, hE2⟩
        replace hE := hE.trans hE2
        go_wp2_with fail
        go_ret
        exact ⟨rfl, hE⟩
      · by_cases g2 : n < 0
        · have S1 := hide (fun W A c hb => part_B A len c l at_ n W hb (by omega) [] q 1 (hE1 (.inr g2)))
          clear hE1 hE2 q h0
          go_enter Try.func6, Try.ntmps6
          go_wp2_with fail
          refine (awake01 _).mono ?_
          rintro e w1 ⟨rfl, hE⟩
          replace hb := hb.ext hE
          go_wp2_with fail
          refine (S1.out _ _ _ hb).mono ?_
          rintro e w2 ⟨A2, c2, rfl, hB2, hE2⟩
          replace hE := hE.trans hE2
          go_wp2_with fail
          go_ret
          exact ⟨by simp, hE⟩
        · have S1 := hide (fun W A c hb => part_B A len c l at_ n W hb (by omega) [] q 2 (hE2 (by omega)))
          clear hE1 hE2 q h0
          go_enter Try.func6, Try.ntmps6
          go_wp2_with fail
          refine (awake01 _).mono ?_
          rintro e w1 ⟨rfl, hE⟩
          replace hb := hb.ext hE
          go_wp2_with fail
          refine (S1.out _ _ _ hb).mono ?_
          rintro e w2 ⟨A2, c2, rfl, hB2, hE2⟩
          replace hE := hE.trans hE2
          go_wp2_with fail
          go_ret
          exact ⟨by simp; omega, hE⟩
end Go.Proofs.Ytiamcdbnhmlhaaa

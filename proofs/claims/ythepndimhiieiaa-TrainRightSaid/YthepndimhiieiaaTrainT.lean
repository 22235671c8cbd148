/- The document's answer for layer 11: Open, whatever the bytes are; Split. -/
import Derived.Test.YthepndimhiieiaaTrainS
namespace Go.Proofs.Ythepndimhiieiaa
open Go.RowKit
theorem ropen_any (A : Option Addr) (n c : Nat) (b : List UInt8) (w : World) (hb : Bytes w A n c b) (hn : n ≤ 1000000) : Calls Try.prog 36 #[.slice A n c] w fun e w' => ∃ A' c', e = .returned (.tuple #[.agg #[.bool (oP b), .int .i64 (oC b : Int), .int .i64 (oT b : Int), .int .i64 (oS b : Int), .slice A' (oB b).length c', .int .i64 (oN b : Int)], .int .i64 (oE b)]) ∧ Bytes w' A' (oB b).length c' (oB b) ∧ Ext w w' := by
  have hlen := hb.len
  have hz : ∀ E : Int, oE b = E → E ≠ 0 → ∀ e w', (e = Ending.returned (.tuple #[.agg #[.bool false, .int .i64 0, .int .i64 0, .int .i64 0, .slice none 0 0, .int .i64 0], .int .i64 E]) ∧ Ext w w') → ∃ A' c', e = .returned (.tuple #[.agg #[.bool (oP b), .int .i64 (oC b : Int), .int .i64 (oT b : Int), .int .i64 (oS b : Int), .slice A' (oB b).length c', .int .i64 (oN b : Int)], .int .i64 (oE b)]) ∧ Bytes w' A' (oB b).length c' (oB b) ∧ Ext w w' := by
    rintro E hE0 hne e w' ⟨rfl, hX⟩
    obtain ⟨q1, q2, q3, q4, q6, q5⟩ := open_bad (b := b) (by rw [hE0]; exact hne)
    rw [q1, q2, q3, q4, q5, q6, hE0]
    exact ⟨none, 0, rfl, Bytes.nil _, hX⟩
  by_cases h0 : cE b = 0
  case neg =>
    refine (ropen_no A n c b w hb (.inl h0)).mono fun e w' h => hz (cE b) (by unfold oE; rw [if_pos h0]) h0 e w' ?_
    rw [if_pos h0] at h
    exact h
  by_cases h1 : cS b < b.length
  · refine (ropen_no A n c b w hb (.inr h1)).mono fun e w' h => hz 4 (by unfold oE; rw [if_neg (fun q => q h0), if_pos h1]) (by decide) e w' ?_
    rw [if_neg (fun q => q h0)] at h
    exact h
  have hE : oE b = trE (cP b) (b.drop 4) := by unfold oE; rw [if_neg (fun q => q h0), if_neg h1]
  by_cases h2 : trE (cP b) (b.drop 4) = 0
  · rw [h2] at hE
    obtain ⟨l1, l2⟩ := oB_len b hE
    have hN : oN b = trN (cP b) (b.drop 4) := by unfold oN; rw [if_pos hE]
    rw [hlen] at l1 l2
    have hB : oB b = (b.drop 4).take (n - oN b - 4) := by unfold oB; rw [if_pos hE, hlen]
    have q1 : oP b = cP b := by unfold oP; rw [if_pos hE]
    have q2 : oC b = cC b := by unfold oC; rw [if_pos hE]
    have q3 : oT b = cT b := by unfold oT; rw [if_pos hE]
    have q4 : oS b = cS b := by unfold oS; rw [if_pos hE]
    rw [l2, q1, q2, q3, q4, hE]
    exact ropen_ok A n c b w hb hn h0 h1 (oN b) h2 hN.symm l1 (oB b) hB.symm
  · have h5 : trE (cP b) (b.drop 4) = 5 := by
      rcases trE_or (cP b) (b.drop 4) with q | q
      · exact absurd q h2
      · exact q
    rw [h5] at hE
    exact (ropen_bad A n c b w hb h0 h1 h2).mono fun e w' h => hz _ hE (by decide) e w' h
theorem ropen_E (A : Option Addr) (n c : Nat) (b : List UInt8) (w : World) (hb : Bytes w A n c b) (hn : n ≤ 1000000) (E : Int) (hE : oE b = E) : Calls Try.prog 36 #[.slice A n c] w fun e w' => ∃ v, e = .returned (.tuple #[v, .int .i64 E]) ∧ Ext w w' := by
  subst hE
  exact (ropen_any A n c b w hb hn).mono fun e w' ⟨A', c', he, _, hX⟩ => ⟨_, he, hX⟩
theorem getD_take (b : List UInt8) (k i : Nat) (h : i < k) : (b.take k).getD i 0 = b.getD i 0 := by
  rw [List.getD_eq_getElem?_getD, List.getD_eq_getElem?_getD, List.getElem?_take, if_pos h]
theorem car_same {r : List UInt8} (h : cE r = 0) : oE (r.take (cS r)) = trE (cP r) ((r.take (cS r)).drop 4) := by
  obtain ⟨z1, z2, _, _⟩ := cS_ge h
  have hE := h
  have e0 : b0 (r.take (cS r)) = b0 r := by unfold b0; rw [getD_take _ _ _ (by omega)]
  have e2 : b2 (r.take (cS r)) = b2 r := by unfold b2; rw [getD_take _ _ _ (by omega)]
  have e3 : b3 (r.take (cS r)) = b3 r := by unfold b3; rw [getD_take _ _ _ (by omega)]
  have hl : (r.take (cS r)).length = cS r := by rw [List.length_take]; omega
  have hs : cS r = 4 * (256 * b2 r + b3 r + 1) := by unfold cS; rw [if_pos h]
  unfold cE at h
  split at h
  · cases h
  split at h
  · cases h
  rename_i q1 q2
  have hc : cE (r.take (cS r)) = 0 := by
    unfold cE
    rw [hl, e0, e2, e3, if_neg (by omega), if_neg q2, if_neg (by omega)]
  have hp : cP (r.take (cS r)) = cP r := by unfold cP; rw [hc, hE, e0]
  have hS : cS (r.take (cS r)) = cS r := by
    have hx : ∀ x, cE x = 0 → cS x = 4 * (256 * b2 x + b3 x + 1) := fun x h => by unfold cS; rw [if_pos h]
    have := hx _ hc
    rw [this, e2, e3]
    exact hs.symm
  unfold oE
  rw [if_neg (fun q => q hc), hS, hl, if_neg (by omega), hp]
set_option maxRecDepth 100000 in
set_option maxHeartbeats 4000000 in
theorem rsplit_any (A : Option Addr) (n c : Nat) (b : List UInt8) (w : World) (hb : Bytes w A n c b) (hn : n ≤ 1000000) (E : Int) (L : List (List UInt8)) (hE : sE b = E) (hL : sL b = L) : Calls Try.prog 41 #[.slice A n c] w fun e w' => ∃ A' c', e = .returned (.tuple #[.slice A' L.length c', .int .i64 E]) ∧ Slices w' A' L.length c' L ∧ Ext w w' := by
  obtain ⟨T⟩ := tyS
  have hlen := hb.len
  by_cases h0 : n = 0
  · subst h0
    obtain rfl : 2 = E := by rw [← hE]; unfold sE; rw [if_pos hlen]
    obtain rfl : [] = L := by rw [← hL]; unfold sL; rw [hE]; rfl
    clear hE hL
    go_enter Try.func41, Try.ntmps41
    go_wp2_with fail
    go_ret2
    exact ⟨none, 0, rfl, Slices.none_ _, Ext.refl _⟩
  · have hE' : spE n b = E := by rw [← hE]; unfold sE; rw [if_neg (by omega), hlen]
    have hL' : E = 0 → spL n b = L := by intro q; rw [← hL]; unfold sL; rw [hE, if_pos q, hlen]
    have hL0 : E ≠ 0 → L = [] := by intro q; rw [← hL]; unfold sL; rw [hE, if_neg q]
    have HL := hide (And.intro hL' hL0)
    have HE' := hide hE'
    have hn0 : ((n : Int) == 0) = false := beq_eq_false_iff_ne.2 (by omega)
    have HLen := hide hlen
    obtain ⟨g, o, rfl, hg⟩ := hb.plain (by omega)
    have hnc := hb.le
    have hcm := hb.reach
    clear hE hL hL' hL0 hE' hlen
    go_enter Try.func41, Try.ntmps41
    go_wp2_with fail
    go_loopw [4, 5] (fun vo vi wr => ∃ (a f : Nat) (A2 : Option Addr) (c2 : Nat) (hs : List Sl) (D : List (List UInt8)), vi = .int .i64 (a : Int) ∧ vo = .slice A2 D.length c2 ∧ a ≤ n ∧ n - a ≤ f ∧ D.length ≤ a ∧ spE f (b.drop a) = E ∧ (E = 0 → D ++ spL f (b.drop a) = L) ∧ wr.ownsRow w.heap.size 25 eS.size (.slice A2 D.length c2) D.length (eS.cells hs) ∧ Cars wr w.heap.size hs D ∧ Ext w wr) (fun _ vi _ => n - (intOf vi).toNat)
    case atStart => exact ⟨0, n, none, 0, [], [], rfl, rfl, by omega, by omega, by simp, by rw [List.drop_zero]; exact HE'.out, fun q => by rw [List.drop_zero, List.nil_append]; exact HL.out.1 q, World.ownsRow_nil _ _ _ _, trivial, Ext.refl _⟩
    case round =>
      obtain ⟨a, f, A2, c2, hs, D, rfl, rfl, ha, hf, hD, hE, hLL, hO, hC, hX⟩ := hrel
      by_cases hm : a = n
      · subst hm
        rw [List.drop_of_length_le (by rw [HLen.out]; omega)] at hE hLL
        rw [(sp_nil f).1] at hE
        subst hE
        have hDL := hLL rfl
        rw [(sp_nil f).2, List.append_nil] at hDL
        subst hDL
        clear hLL HL
        go_wp2_with fail
        go_ret2
        exact ⟨A2, c2, rfl, Cars.slices (Els.own hO) hC, hX⟩
      · obtain ⟨f, rfl⟩ : ∃ k, f = k + 1 := ⟨f - 1, by omega⟩
        obtain ⟨r, hr⟩ : ∃ r, b.drop a = r := ⟨_, rfl⟩
        rw [hr] at hE hLL
        have hrl : r.length = n - a := by rw [← hr, List.length_drop, HLen.out]
        rw [spE, if_neg (by omega)] at hE
        have han : (a : Int) < (n : Int) := by omega
        have hac : (a : Int) ≤ (c : Int) := by omega
        have hbr := hb.subIf (lo := a) (hi := n) (by omega) (by omega)
        simp only [Option.map_some, add_base] at hbr
        rw [List.take_of_length_le (by rw [List.length_drop, HLen.out]; omega), hr] at hbr
        have hca : ¬ c = a := by omega
        rw [if_neg hca] at hbr
        have S := hide (fun W h => rread_any (some ⟨g, o + a, none⟩) (n - a) (c - a) r W h)
        by_cases h1 : cE r = 0
        case neg =>
          rw [if_pos h1] at hE
          have hne : (E != 0) = true := by rw [← hE]; simp [h1]
          obtain rfl := HL.out.2 (by rw [← hE]; exact h1)
          rw [hE] at S
          clear hE hLL HL h1 hr hrl
          go_wp2_with fail
          refine (S.out _ (hbr.ext hX)).mono ?_
          rintro e w1 ⟨rfl, hE1⟩
          go_wp2_with fail
          go_ret2
          exact ⟨none, 0, rfl, Slices.none_ _, (hX.trans hE1).alloc _⟩
        rw [if_neg (fun q => q h1)] at hE
        obtain ⟨z1, z2, z3, z4⟩ := cS_ge h1
        have hcs := car_same h1
        have hLL2 : E = 0 → (D ++ [r.take (cS r)]) ++ spL f (r.drop (cS r)) = L := fun q => by
          have := hLL q
          rw [spL, if_neg (by omega)] at this
          rw [List.append_assoc]
          exact this
        obtain ⟨P, hP⟩ : ∃ E, cP r = E := ⟨_, rfl⟩
        obtain ⟨C, hC0⟩ : ∃ E, cC r = E := ⟨_, rfl⟩
        obtain ⟨T0, hT⟩ : ∃ E, cT r = E := ⟨_, rfl⟩
        obtain ⟨Z, hZ⟩ : ∃ E, cS r = E := ⟨_, rfl⟩
        rw [h1, hP, hC0, hT, hZ] at S
        rw [hP, hZ] at hE hcs
        rw [hZ] at z1 z2 z3 z4 hLL2
        rw [hrl] at z2
        obtain ⟨car, hcar⟩ : ∃ x, r.take Z = x := ⟨_, rfl⟩
        have hrest : r.drop Z = b.drop (a + Z) := by rw [← hr, List.drop_drop]
        obtain ⟨q, hq⟩ : ∃ q, a + Z = q := ⟨_, rfl⟩
        have hbc := hb.subIf (lo := a) (hi := q) (by omega) (by omega)
        simp only [Option.map_some, add_base] at hbc
        rw [hr, if_neg hca] at hbc
        have hqz : q - a = Z := by omega
        rw [hqz, hcar] at hbc
        rw [hrest, hq] at hE hLL2
        rw [hcar] at hE hcs hLL2
        have hrl2 : (b.drop q).length = n - q := by rw [List.length_drop, HLen.out]
        rw [hrl2] at hE
        obtain ⟨te, hte⟩ : ∃ x, trE P (car.drop 4) = x := ⟨_, rfl⟩
        rw [hte] at hE hcs
        have hcl : car.length = Z := hbc.len
        have S2 := hide (fun W A c h => ropen_E A Z c car W h (by omega) te hcs)
        have i1 : IntKind.i64.wrap ((a : Int) + (Z : Int)) = (q : Int) := by rw [IntWalk.i64_in _ (by omega)]; omega
        have i2 : (a : Int) + (Z : Int) = (q : Int) := by omega
        have i3 : (a : Int) ≤ (q : Int) := by omega
        have i4 : (q : Int) ≤ (c : Int) := by omega
        have i5 : q ≤ n := by omega
        have i6 : a + 4 ≤ q := by omega
        have hne0 : te = 0 ∨ te = 5 := by rw [← hte]; exact trE_or _ _
        have HLL := hide hLL2
        have HE := hide hE
        have HI := hide (And.intro i1 (And.intro i2 (And.intro hqz hne0)))
        clear i1 i2 hqz hne0
        clear hLL hLL2 hcar hrest hP hC0 hT hZ hte h1 hcl hrl hE hcs hr hrl2 hq z1 z2 z3 z4
        go_wp2_with fail
        refine (S.out _ (hbr.ext hX)).mono ?_
        rintro e w1 ⟨rfl, hE1⟩
        have hbk := Blk.new w1 62 #[.bool P, .int .i64 (C : Int), .int .i64 (T0 : Int), .int .i64 (Z : Int)]
        have hE2 := hE1.alloc (.cells #[.bool P, .int .i64 (C : Int), .int .i64 (T0 : Int), .int .i64 (Z : Int)] 62)
        obtain ⟨gk, hgk⟩ : ∃ g, w1.heap.size = g := ⟨_, rfl⟩
        go_upto_region 9 with fail
        rw [hgk] at hbk
        generalize hgw : w1.alloc (.cells #[.bool P, .int .i64 (C : Int), .int .i64 (T0 : Int), .int .i64 (Z : Int)] 62) = w2 at *
        clear hgw hgk
        replace hX := hX.trans hE2
        replace hC := hC.ext hE2
        replace hO := own_ext hO hE2
        clear hE2 S hE1
        obtain ⟨⟨u0, u1, u2, u3⟩, ⟨v0, v1, v2, v3⟩, hlt⟩ := (hbk.alloc (.cells #[] 5)).four
        have hsz := hX.size
        obtain ⟨i1, i2, hqz, hne0⟩ := HI.out
        go_upto_region 10 with (at_builtin; refine wpList_appB w2 _ _ rfl rfl ((Ext.refl _).alloc _) _ 0 0 _ rfl (own_empty w2) (some ⟨g, o + a, none⟩) Z (c - a) car rfl ((hbc.ext hX).alloc _) (by omega) ?_; intro A4 c4 w3 hQ hE3; rw [Nat.zero_add, List.nil_append] at hQ)
        clear u0 u1 u2 u3 v0 v1 v2 v3 hlt
        replace hQ := own_more hQ hsz
        replace hX := hX.trans hE3
        replace hC := hC.ext hE3
        replace hO := own_ext hO hE3
        replace hbk := hbk.below hE3 hbk.lt
        clear hE3
        have hbq := Bytes.own hQ
        obtain ⟨⟨u0, u1, u2, u3⟩, ⟨v0, v1, v2, v3⟩, hlt⟩ := hbk.four
        have hsz3 := hX.size
        by_cases hbad : P = true ∧ n - q ≠ 0
        · have hE := HE.out
          rw [if_pos (.inl hbad)] at hE
          obtain rfl := HL.out.2 (by rw [← hE]; decide)
          subst hE
          obtain ⟨rfl, hq0⟩ := hbad
          have hqn : (q : Int) < (n : Int) := by omega
          clear HE HLL HL hne0
          go_wp2_with fail
          go_ret2
          exact ⟨none, 0, rfl, Slices.none_ _, hX⟩
        have hcase : (P = true ∧ ¬ (q : Int) < (n : Int)) ∨ P = false := by
          cases P
          · exact .inr rfl
          · refine .inl ⟨rfl, ?_⟩
            have : ¬ (n - q ≠ 0) := fun x => hbad ⟨rfl, x⟩
            omega
        rcases hne0 with rfl | rfl
        · have hE := HE.out
          rw [if_neg (by rintro (x | x); exact hbad x; exact x rfl)] at hE
          have HE2 := hide hE
          clear hbad HE hE
          rcases hcase with ⟨rfl, hq1⟩ | rfl
          all_goals
            go_wp2_with fail
            refine (S2.out _ _ _ hbq).mono ?_
            rintro e w4 ⟨v, rfl, hE4⟩
            clear u0 u1 u2 u3 v0 v1 v2 v3 hlt hbk hbq
            replace hX := hX.trans hE4
            replace hC := hC.ext hE4
            replace hO := own_ext hO hE4
            replace hQ := own_ext hQ hE4
            clear hE4
            have hsz4 := hX.size
            go_wp2_with (at_builtin; refine wpList_appE T w _ _ rfl rfl (hX.alloc _) A2 D.length c2 hs rfl (hO.alloc _) _ 1 1 [(A4, Z, c4)] rfl (Els.lit (E := eS) [(A4, Z, c4)] 25 1 rfl rfl (by omega)) (by omega) ?_; intro A6 c6 w6 hown6 hE6 hk6)
            have hC6 := ((hC.snoc (x := (A4, Z, c4)) hQ).alloc _).keep (hO.alloc _) hk6
            go_roundw
            case rel =>
              have e1 : (D ++ [car]).length = D.length + 1 := by simp
              exact ⟨q, f, A6, c6, hs ++ [(A4, Z, c4)], D ++ [car], rfl, by rw [e1], i5, by omega, by rw [e1]; omega, HE2.out, HLL.out, by rw [e1]; exact hown6, hC6, hE6⟩
            case measure => simp [intOf]; omega
        · have hE := HE.out
          rw [if_pos (.inr (by decide))] at hE
          obtain rfl := HL.out.2 (by rw [← hE]; decide)
          subst hE
          clear hbad HE HLL HL
          rcases hcase with ⟨rfl, hq1⟩ | rfl
          all_goals
            go_wp2_with fail
            refine (S2.out _ _ _ hbq).mono ?_
            rintro e w4 ⟨v, rfl, hE4⟩
            go_wp2_with fail
            go_ret2
            exact ⟨none, 0, rfl, Slices.none_ _, hX.trans hE4⟩
end Go.Proofs.Ythepndimhiieiaa

/- train.Split: the walk. -/
import Derived.Test.YthepndimhiieiaaTrainC
import Derived.Test.YthepndimhiieiaaCars
import Derived.Test.YthepndimhiieiaaPlainTrain2
namespace Go.Proofs.Ythepndimhiieiaa
open Go.RowKit
set_option maxRecDepth 100000 in
set_option maxHeartbeats 4000000 in
theorem tsplit_any (A : Option Addr) (n c : Nat) (b : List UInt8) (w : World) (hb : Bytes w A n c b) (hn : n ≤ 1000000) (E : Int) (L : List (List UInt8)) (hE : sE b = E) (hL : sL b = L) : Calls Try.prog 40 #[.slice A n c] w fun e w' => ∃ A' c', e = .returned (.tuple #[.slice A' L.length c', .int .i64 E]) ∧ Slices w' A' L.length c' L ∧ Ext w w' := by
  obtain ⟨T⟩ := tyS
  have hlen := hb.len
  by_cases h0 : n = 0
  · subst h0
    obtain rfl : 2 = E := by rw [← hE]; unfold sE; rw [if_pos hlen]
    obtain rfl : [] = L := by rw [← hL]; unfold sL; rw [hE]; rfl
    clear hE hL
    go_enter Try.func40, Try.ntmps40
    go_wp2_with fail
    go_ret2
    exact ⟨none, 0, rfl, Slices.none_ _, Ext.refl _⟩
  · have hE' : spE n b = E := by rw [← hE]; unfold sE; rw [if_neg (by omega), hlen]
    have hL' : E = 0 → spL n b = L := by intro q; rw [← hL]; unfold sL; rw [hE, if_pos q, hlen]
    have hL0 : E ≠ 0 → L = [] := by intro q; rw [← hL]; unfold sL; rw [hE, if_neg q]
    have HL := hide (And.intro hL' hL0)
    have HE' := hide hE'
    have hn0 : ((n : Int) == 0) = false := beq_eq_false_iff_ne.2 (by omega)
    clear hE hL hlen hL' hL0 hE'
    go_enter Try.func40, Try.ntmps40
    go_wp2_with fail
    go_loopw [0, 4] (fun vb vo wr => ∃ (A1 : Option Addr) (m c1 : Nat) (r : List UInt8) (f : Nat) (A2 : Option Addr) (c2 : Nat) (hs : List Sl) (D : List (List UInt8)), vb = .slice A1 m c1 ∧ vo = .slice A2 D.length c2 ∧ Bytes w A1 m c1 r ∧ m ≤ f ∧ m ≤ n ∧ D.length + m ≤ n ∧ spE f r = E ∧ (E = 0 → D ++ spL f r = L) ∧ wr.ownsRow w.heap.size 25 eS.size (.slice A2 D.length c2) D.length (eS.cells hs) ∧ Cars wr w.heap.size hs D ∧ Ext w wr) (fun vb _ _ => match vb with | .slice _ m _ => m | _ => 0)
    case atStart => exact ⟨A, n, c, b, n, none, 0, [], [], rfl, rfl, hb, Nat.le_refl _, Nat.le_refl _, by simp, HE'.out, fun q => by rw [List.nil_append]; exact HL.out.1 q, World.ownsRow_nil _ _ _ _, trivial, Ext.refl _⟩
    case round =>
      clear hb
      obtain ⟨A1, m, c1, r, f, A2, c2, hs, D, rfl, rfl, hbw, hf, hmn, hD, hE, hLL, hO, hC, hX⟩ := hrel
      have hb := hbw.ext hX
      have hlen := hb.len
      by_cases hm : m = 0
      · subst hm
        obtain rfl := List.eq_nil_of_length_eq_zero hlen
        rw [(sp_nil f).1] at hE
        subst hE
        have hDL := hLL rfl
        rw [(sp_nil f).2, List.append_nil] at hDL
        subst hDL
        clear hLL HL
        go_wp2_with fail
        go_ret2
        exact ⟨A2, c2, rfl, Cars.slices (Els.own hO) hC, hX⟩
      · obtain ⟨f, rfl⟩ : ∃ k, f = k + 1 := ⟨f - 1, by omega⟩
        rw [spE, if_neg (by omega)] at hE
        obtain ⟨g, o, rfl, hg⟩ := hb.plain (by omega)
        have S := hide (fun W h => cread_any (some ⟨g, o, none⟩) m c1 r W h)
        have hm0 : (0 : Int) < (m : Int) := by omega
        by_cases h1 : cE r = 0
        case neg =>
          rw [if_pos h1] at hE
          have hne : (E != 0) = true := by rw [← hE]; simp [h1]
          obtain rfl := HL.out.2 (by rw [← hE]; exact h1)
          rw [hE] at S
          clear hE hLL HL h1
          go_wp2_with fail
          refine (S.out _ hb).mono ?_
          rintro e w1 ⟨rfl, hE1⟩
          go_wp2_with fail
          go_ret2
          exact ⟨none, 0, rfl, Slices.none_ _, (hX.trans hE1).alloc _⟩
        rw [if_neg (fun q => q h1)] at hE
        obtain ⟨z1, z2, z3, z4⟩ := cS_ge h1
        have hLL2 : E = 0 → (D ++ [r.take (cS r)]) ++ spL f (r.drop (cS r)) = L := fun q => by
          have := hLL q
          rw [spL, if_neg (by omega)] at this
          rw [List.append_assoc]
          exact this
        obtain ⟨P, hP⟩ : ∃ E, cP r = E := ⟨_, rfl⟩
        obtain ⟨C, hC0⟩ : ∃ E, cC r = E := ⟨_, rfl⟩
        obtain ⟨T0, hT⟩ : ∃ E, cT r = E := ⟨_, rfl⟩
        obtain ⟨Z, hZ⟩ : ∃ E, cS r = E := ⟨_, rfl⟩
        rw [h1, hP, hC0, hT, hZ] at S
        rw [hP, hZ] at hE
        rw [hZ] at z1 z2 z3 z4 hLL2
        rw [hlen] at z2
        obtain ⟨car, hcar⟩ : ∃ x, r.take Z = x := ⟨_, rfl⟩
        obtain ⟨rest, hrest⟩ : ∃ x, r.drop Z = x := ⟨_, rfl⟩
        have hbc := hb.take (m := Z) (by omega)
        have hbr := hbw.subIf (lo := Z) (hi := m) (by omega) (by omega)
        simp only [Option.map_some, add_base] at hbr
        rw [List.take_of_length_le (by rw [List.length_drop]; omega)] at hbr
        rw [hcar] at hbc hE hLL2
        rw [hrest] at hbr hE hLL2
        have hrl : rest.length = m - Z := by rw [← hrest, List.length_drop, hlen]
        obtain ⟨m2, hm2⟩ : ∃ x, m - Z = x := ⟨_, rfl⟩
        rw [hm2] at hrl hbr
        rw [hrl] at hE
        have hm2f : m2 + 4 ≤ m := by omega
        obtain ⟨o', ho'⟩ : ∃ o', (if c1 = Z then (some ⟨g, o, none⟩ : Option Addr) else some ⟨g, o + Z, none⟩) = some ⟨g, o', none⟩ := by split <;> exact ⟨_, rfl⟩
        rw [ho'] at hbr
        obtain ⟨tv, htv⟩ : ∃ x, trN P (car.drop 4) = x := ⟨_, rfl⟩
        obtain ⟨te, hte⟩ : ∃ x, trE P (car.drop 4) = x := ⟨_, rfl⟩
        rw [hte] at hE
        have S2 := hide (fun W A n c h => trailer_any P (C : Int) (T0 : Int) (Z : Int) A n c (car.drop 4) W h tv te htv hte)
        have hcl : car.length = Z := hbc.len
        have hnc := hb.le
        have hcm := hb.reach
        have i1 : (Z : Int) ≤ (c1 : Int) := by omega
        have i2 : (Z : Int) ≤ (m : Int) := by omega
        have i3 : (4 : Int) ≤ (Z : Int) := by omega
        have i4 : (0 : Int) ≤ (Z : Int) := by omega
        have HLL := hide (And.intro hLL2 (And.intro hcl hrl))
        have HE := hide hE
        clear hLL hLL2 hcar hrest hP hC0 hT hZ htv hte h1 hcl hrl hE
        go_wp2_with fail
        refine (S.out _ hb).mono ?_
        rintro e w1 ⟨rfl, hE1⟩
        have hbk := Blk.new w1 62 #[.bool P, .int .i64 (C : Int), .int .i64 (T0 : Int), .int .i64 (Z : Int)]
        have hE2 := hE1.alloc (.cells #[.bool P, .int .i64 (C : Int), .int .i64 (T0 : Int), .int .i64 (Z : Int)] 62)
        obtain ⟨gk, hgk⟩ : ∃ g, w1.heap.size = g := ⟨_, rfl⟩
        go_upto_region 8 with fail
        rw [hgk] at hbk
        generalize hgw : w1.alloc (.cells #[.bool P, .int .i64 (C : Int), .int .i64 (T0 : Int), .int .i64 (Z : Int)] 62) = w2 at *
        clear hgw hgk
        replace hX := hX.trans hE2
        replace hbc := hbc.ext hE2
        replace hC := hC.ext hE2
        replace hO := own_ext hO hE2
        clear hE2 S hb hE1
        obtain ⟨⟨u0, u1, u2, u3⟩, ⟨v0, v1, v2, v3⟩, hlt⟩ := hbk.four
        have hsz := hX.size
        go_wp2_with fail
        refine (clone_B w.heap.size _ _ _ _ _ hbc (by omega) hX.size).mono ?_
        rintro e w3 ⟨A4, c4, rfl, hQ, hE2⟩
        clear u0 u1 u2 u3 v0 v1 v2 v3 hlt hsz
        replace hX := hX.trans hE2
        replace hC := hC.ext hE2
        replace hO := own_ext hO hE2
        replace hbk := hbk.below hE2 hbk.lt
        clear hE2 hbc
        have hbq := Bytes.own hQ
        obtain ⟨g4, o4, rfl, hg4⟩ := hbq.plain (by omega)
        have hq4 := hbq.subIf (lo := 4) (hi := Z) (by omega) (by omega)
        simp only [Option.map_some, add_base] at hq4
        rw [List.take_of_length_le (by rw [List.length_drop, HLL.out.2.1]; omega)] at hq4
        obtain ⟨o5, ho5⟩ : ∃ o', (if c4 = 4 then (some ⟨g4, o4, none⟩ : Option Addr) else some ⟨g4, o4 + 4, none⟩) = some ⟨g4, o', none⟩ := by split <;> exact ⟨_, rfl⟩
        rw [ho5] at hq4
        have hnc4 := hbq.le
        have hcm4 := hbq.reach
        have j1 : (Z : Int) ≤ (c4 : Int) := by omega
        obtain ⟨⟨u0, u1, u2, u3⟩, ⟨v0, v1, v2, v3⟩, hlt⟩ := hbk.four
        go_upto_region 10 with fail
        clear u0 u1 u2 u3 v0 v1 v2 v3 hlt
        refine regE_start (by kernel_rfl) ?_
        have hR := (Ext.refl w3).drew
        generalize hgw : (w3).drew = wr0 at *
        clear hgw
        refine regE_take (i := 0) (v := ?_) rfl (by kernel_rfl) (by kernel_rfl) (by kernel_rfl) (fun _ _ _ h => h) (by rfl) ?_ ?_
        rotate_left
        · intro W hW; obtain ⟨⟨u0, u1, u2, u3⟩, _, _⟩ := (hbk.below hW hbk.lt).four; go_simp; try with_reducible rfl
        simp only [Act.put, List.setIfInBounds_toArray, List.set_cons_zero, List.set_cons_succ]
        refine regE_take (i := 1) (v := ?_) rfl (by kernel_rfl) (by kernel_rfl) (by kernel_rfl) (fun _ _ _ h => h) (by rfl) ?_ ?_
        rotate_left
        · intro W hW; go_simp; try with_reducible rfl
        simp only [Act.put, List.setIfInBounds_toArray, List.set_cons_zero, List.set_cons_succ]
        refine regE_take (i := 2) (v := ?_) rfl (by kernel_rfl) (by kernel_rfl) (by kernel_rfl) (fun _ _ _ h => h) (by rfl) ?_ ?_
        rotate_left
        · intro W hW; go_simp; try with_reducible rfl
        simp only [Act.put, List.setIfInBounds_toArray, List.set_cons_zero, List.set_cons_succ]
        refine regE_do (i := 3) rfl (by kernel_rfl) (fun K hK => ?_)
        rw [if_pos (by rfl)]
        go_simp
        refine (S2.out _ _ _ _ (hq4.ext hR)).mono ?_
        rintro e wr1 ⟨rfl, hXX⟩
        refine hK.out _ _ (hR.trans hXX) ?_
        clear hK K
        replace hR := hR.trans hXX
        clear hXX
        try simp only [Act.put, List.setIfInBounds_toArray, List.set_cons_zero, List.set_cons_succ]
        refine regE_take (i := 4) (v := ?_) rfl (by kernel_rfl) (by kernel_rfl) (by kernel_rfl) (fun _ _ _ h => h) (by rfl) ?_ ?_
        rotate_left
        · intro W hW; go_simp; try with_reducible rfl
        simp only [Act.put, List.setIfInBounds_toArray, List.set_cons_zero, List.set_cons_succ]
        refine regE_take (i := 5) (v := ?_) rfl (by kernel_rfl) (by kernel_rfl) (by kernel_rfl) (fun _ _ _ h => h) (by rfl) ?_ ?_
        rotate_left
        · intro W hW; go_simp; try with_reducible rfl
        simp only [Act.put, List.setIfInBounds_toArray, List.set_cons_zero, List.set_cons_succ]
        refine regE_take (i := 6) (v := ?_) rfl (by kernel_rfl) (by kernel_rfl) (by kernel_rfl) (fun _ _ _ h => h) (by rfl) ?_ ?_
        rotate_left
        · intro W hW; go_simp; try with_reducible rfl
        simp only [Act.put, List.setIfInBounds_toArray, List.set_cons_zero, List.set_cons_succ]
        refine regE_take (i := 7) (v := ?_) rfl (by kernel_rfl) (by kernel_rfl) (by kernel_rfl) (fun _ _ _ h => h) (by rfl) ?_ ?_
        rotate_left
        · intro W hW; go_simp; try with_reducible rfl
        simp only [Act.put, List.setIfInBounds_toArray, List.set_cons_zero, List.set_cons_succ]
        refine regE_done (by kernel_rfl) ?_
        replace hX := hX.trans hR
        replace hC := hC.ext hR
        replace hO := own_ext hO hR
        replace hQ := own_ext hQ hR
        replace hbk := hbk.below hR hbk.lt
        clear hR hq4 hbq
        obtain ⟨⟨u0, u1, u2, u3⟩, ⟨v0, v1, v2, v3⟩, hlt⟩ := hbk.four
        by_cases hbad : (P = true ∧ m2 ≠ 0) ∨ te ≠ 0
        · have hE := HE.out
          rw [if_pos hbad] at hE
          obtain rfl := HL.out.2 (by rw [← hE]; decide)
          subst hE
          have hcase : (P = true ∧ (0 : Int) < (m2 : Int)) ∨ (P = true ∧ ¬ (0 : Int) < (m2 : Int) ∧ (te != 0) = true) ∨ (P = false ∧ (te != 0) = true) := by
            rcases hbad with ⟨q1, q2⟩ | q
            · exact .inl ⟨q1, by omega⟩
            · have q' : (te != 0) = true := by simp [q]
              cases P
              · exact .inr (.inr ⟨rfl, q'⟩)
              · by_cases q3 : m2 = 0
                · exact .inr (.inl ⟨rfl, by omega, q'⟩)
                · exact .inl ⟨rfl, by omega⟩
          clear hbad HE HL HLL
          rcases hcase with ⟨rfl, q1⟩ | ⟨rfl, q1, q2⟩ | ⟨rfl, q2⟩
          all_goals
            go_wp2_with fail
            go_ret2
            exact ⟨none, 0, rfl, Slices.none_ _, hX⟩
        · have hE := HE.out
          rw [if_neg hbad] at hE
          have ht0 : te = 0 := by
            by_cases q : te = 0
            · exact q
            · exact absurd (.inr q) hbad
          subst ht0
          have hcase : (P = true ∧ m2 = 0) ∨ P = false := by
            cases P
            · exact .inr rfl
            · by_cases q3 : m2 = 0
              · exact .inl ⟨rfl, q3⟩
              · exact absurd (.inl ⟨rfl, q3⟩) hbad
          have HE2 := hide hE
          clear hbad HE hE
          have hsz := hX.size
          rcases hcase with ⟨rfl, rfl⟩ | rfl
          all_goals
            go_wp2_with (at_builtin; refine wpList_appE T w _ _ rfl rfl (hX.alloc _) A2 D.length c2 hs rfl (hO.alloc _) _ 1 1 [(some ⟨g4, o4, none⟩, Z, c4)] rfl (Els.lit (E := eS) [(some ⟨g4, o4, none⟩, Z, c4)] 25 1 rfl rfl (by omega)) (by omega) ?_; intro A6 c6 w6 hown6 hE6 hk6)
            have hC6 := ((hC.snoc (x := (some ⟨g4, o4, none⟩, Z, c4)) hQ).alloc _).keep (hO.alloc _) hk6
            go_roundw
            case rel =>
              have e1 : (D ++ [car]).length = D.length + 1 := by simp
              refine ⟨_, _, _, rest, f, A6, c6, hs ++ [(some ⟨g4, o4, none⟩, Z, c4)], D ++ [car], rfl, by rw [e1], hbr, by omega, by omega, by rw [e1]; omega, HE2.out, HLL.out.1, by rw [e1]; exact hown6, hC6, hE6⟩
            case measure => simp only; omega
end Go.Proofs.Ythepndimhiieiaa

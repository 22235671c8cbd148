/- The document's answer for layer 11: Open, Split. -/
import Derived.Test.YthepndimhiieiaaTrainR
namespace Go.Proofs.Ythepndimhiieiaa
open Go.RowKit
theorem wp_appB0 {o : Oper} {a : Act} {w : World} {K : Act → World → Prop} {Q : Exit → Act → World → Prop} (w0 : World) (s x : Operand)
    (ho : o.op = .call { callee := .builtin .append, args := #[s, x], argTypes := #[25, 25] }) (hE : Ext w0 w)
    (A0 : Option Addr) (c0 : Nat) (hs : a.eval s = .slice A0 0 c0) (hown : w.ownsRow w0.heap.size 5 1 (.slice A0 0 c0) 0 (([] : List UInt8).map Bv))
    (A : Option Addr) (m c : Nat) (r : List UInt8) (hx : a.eval x = .slice A m c) (hb : Bytes w A m c r) (hlen : m ≤ 1000000)
    (h : ∀ A' c' w', w'.ownsRow w0.heap.size 5 1 (.slice A' m c') m (r.map Bv) → Ext w0 w' → K (a.put o.dst (.slice A' m c')) w') :
    o.wp Try.prog a w K Q := wp_appB w0 s x ho hE A0 0 c0 [] hs hown A m c r hx hb (by omega) (by
      intro A' c' w' h1 h2
      rw [Nat.zero_add, List.nil_append] at h1
      have := h A' c' w' h1 h2
      rwa [Nat.zero_add])
theorem Ext.put6 {w w1 : World} {g : Nat} {a b c d e f : Value} (hE : Ext w w1) (hg : w.heap.size ≤ g) : Ext w ((((((w1.setCell ⟨g, 0, none⟩ a).setCell ⟨g, 1, none⟩ b).setCell ⟨g, 2, none⟩ c).setCell ⟨g, 3, none⟩ d).setCell ⟨g, 4, none⟩ e).setCell ⟨g, 5, none⟩ f) :=
  (((((hE.setCell (p := ⟨g, 0, none⟩) hg a).setCell (p := ⟨g, 1, none⟩) hg b).setCell (p := ⟨g, 2, none⟩) hg c).setCell (p := ⟨g, 3, none⟩) hg d).setCell (p := ⟨g, 4, none⟩) hg e).setCell (p := ⟨g, 5, none⟩) hg f
theorem Blk.put6 {w : World} {g : Nat} {t : TypeId} {p q r s u v a b c d e f : Value} (h : Blk w g t #[p, q, r, s, u, v]) : Blk ((((((w.setCell ⟨g, 0, none⟩ a).setCell ⟨g, 1, none⟩ b).setCell ⟨g, 2, none⟩ c).setCell ⟨g, 3, none⟩ d).setCell ⟨g, 4, none⟩ e).setCell ⟨g, 5, none⟩ f) g t #[a, b, c, d, e, f] := by
  have := (((((h.set_ 0 a).set_ 1 b).set_ 2 c).set_ 3 d).set_ 4 e).set_ 5 f
  simpa only [List.setIfInBounds_toArray, List.set_cons_zero, List.set_cons_succ] using this
theorem own_put6 {w : World} {g : Nat} {a b c d e' f : Value} {base : Nat} {e : TypeId} {size n : Nat} {v : Value} {xs : List Value} (h : w.ownsRow base e size v n xs) (hg : g < base) : ((((((w.setCell ⟨g, 0, none⟩ a).setCell ⟨g, 1, none⟩ b).setCell ⟨g, 2, none⟩ c).setCell ⟨g, 3, none⟩ d).setCell ⟨g, 4, none⟩ e').setCell ⟨g, 5, none⟩ f).ownsRow base e size v n xs :=
  own_set (own_set (own_set (own_set (own_set (own_set h (p := ⟨g, 0, none⟩) (own_lo h hg) a) (p := ⟨g, 1, none⟩) (own_lo h hg) b) (p := ⟨g, 2, none⟩) (own_lo h hg) c) (p := ⟨g, 3, none⟩) (own_lo h hg) d) (p := ⟨g, 4, none⟩) (own_lo h hg) e') (p := ⟨g, 5, none⟩) (own_lo h hg) f
theorem Blk.six {w : World} {g : Nat} {t : TypeId} {a b c d e f : Value} (h : Blk w g t #[a, b, c, d, e, f]) :
    (w.cell? ⟨g, 0, none⟩ = some a ∧ w.cell? ⟨g, 1, none⟩ = some b ∧ w.cell? ⟨g, 2, none⟩ = some c ∧ w.cell? ⟨g, 3, none⟩ = some d ∧ w.cell? ⟨g, 4, none⟩ = some e ∧ w.cell? ⟨g, 5, none⟩ = some f) ∧
    (w.frozen? ⟨g, 0, none⟩ = false ∧ w.frozen? ⟨g, 1, none⟩ = false ∧ w.frozen? ⟨g, 2, none⟩ = false ∧ w.frozen? ⟨g, 3, none⟩ = false ∧ w.frozen? ⟨g, 4, none⟩ = false ∧ w.frozen? ⟨g, 5, none⟩ = false) ∧ g < w.heap.size :=
  ⟨⟨h.cell 0, h.cell 1, h.cell 2, h.cell 3, h.cell 4, h.cell 5⟩, ⟨h.frozen 0, h.frozen 1, h.frozen 2, h.frozen 3, h.frozen 4, h.frozen 5⟩, h.lt⟩
set_option maxRecDepth 100000 in
set_option maxHeartbeats 2000000 in
theorem ropen_no (A : Option Addr) (n c : Nat) (b : List UInt8) (w : World) (hb : Bytes w A n c b) (h : cE b ≠ 0 ∨ cS b < b.length) : Calls Try.prog 36 #[.slice A n c] w fun e w' => e = .returned (.tuple #[.agg #[.bool false, .int .i64 0, .int .i64 0, .int .i64 0, .slice none 0 0, .int .i64 0], .int .i64 (if cE b ≠ 0 then cE b else 4)]) ∧ Ext w w' := by
  have hlen := hb.len
  have S := hide (fun W h => rread_any A n c b W h)
  obtain ⟨E, hE⟩ : ∃ E, cE b = E := ⟨_, rfl⟩
  obtain ⟨P, hP⟩ : ∃ E, cP b = E := ⟨_, rfl⟩
  obtain ⟨C, hC⟩ : ∃ E, cC b = E := ⟨_, rfl⟩
  obtain ⟨T, hT⟩ : ∃ E, cT b = E := ⟨_, rfl⟩
  obtain ⟨Z, hZ⟩ : ∃ E, cS b = E := ⟨_, rfl⟩
  rw [hE, hP, hC, hT, hZ] at S
  rw [hE, hZ, hlen] at h
  rw [hE]
  clear hE hP hC hT hZ hlen
  obtain ⟨R, hR⟩ : ∃ R, (if E ≠ 0 then E else 4) = R := ⟨_, rfl⟩
  have hcase : ((E != 0) = true ∧ R = E) ∨ (E = 0 ∧ ((Z : Int) != (n : Int)) = true ∧ R = 4) := by
    by_cases h0 : E = 0
    · refine .inr ⟨h0, by rw [bne_iff_ne]; omega, by rw [← hR, if_neg (by omega)]⟩
    · exact .inl ⟨by simp [h0], by rw [← hR, if_pos h0]⟩
  rw [hR]
  clear h hR
  have hbz := Blk.new w 66 #[.bool false, .int .i64 0, .int .i64 0, .int .i64 0, .slice none 0 0, .int .i64 0]
  have hE0 := (Ext.refl w).alloc (.cells #[.bool false, .int .i64 0, .int .i64 0, .int .i64 0, .slice none 0 0, .int .i64 0] 66)
  rcases hcase with ⟨q0, rfl⟩ | ⟨rfl, q0, rfl⟩
  all_goals
    go_enter Try.func36, Try.ntmps36
    go_wp2_with fail
    refine (S.out _ (hb.alloc _)).mono ?_
    rintro e w1 ⟨rfl, hE⟩
    replace hbz := (hbz.below hE (by simp)).alloc (.cells #[.bool P, .int .i64 (C : Int), .int .i64 (T : Int), .int .i64 (Z : Int)] 62)
    have hE1 := (hE0.trans hE).alloc (.cells #[.bool P, .int .i64 (C : Int), .int .i64 (T : Int), .int .i64 (Z : Int)] 62)
    obtain ⟨⟨u0, u1, u2, u3, u4, u5⟩, ⟨v0, v1, v2, v3, v4, v5⟩, hlt⟩ := hbz.six
    go_wp2_with fail
    have hz2 := Blk.put6 (a := .bool false) (b := .int .i64 0) (c := .int .i64 0) (d := .int .i64 0) (e := .slice none 0 0) (f := .int .i64 0) hbz
    obtain ⟨⟨z0, z1, z2, z3, z4, z5⟩, _, _⟩ := hz2.six
    exact bodyPost_ret (v := .tuple #[.agg #[.bool false, .int .i64 0, .int .i64 0, .int .i64 0, .slice none 0 0, .int .i64 0], .int .i64 _]) (by simp [results, Try.results36, go_sem, z0, z1, z2, z3, z4, z5]) rfl ⟨rfl, Ext.put6 hE1 (Nat.le_refl _)⟩
set_option maxRecDepth 100000 in
set_option maxHeartbeats 2000000 in
theorem ropen_bad (A : Option Addr) (n c : Nat) (b : List UInt8) (w : World) (hb : Bytes w A n c b) (h0 : cE b = 0) (h1 : ¬ cS b < b.length) (h2 : trE (cP b) (b.drop 4) ≠ 0) : Calls Try.prog 36 #[.slice A n c] w fun e w' => e = .returned (.tuple #[.agg #[.bool false, .int .i64 0, .int .i64 0, .int .i64 0, .slice none 0 0, .int .i64 0], .int .i64 5]) ∧ Ext w w' := by
  have hlen := hb.len
  obtain ⟨hz, hs, _, h4⟩ := cBack h0
  obtain ⟨g, o, rfl, hg⟩ := hb.plain (by omega)
  have S := hide (fun W h => rread_any (some ⟨g, o, none⟩) n c b W h)
  obtain ⟨P, hP⟩ : ∃ E, cP b = E := ⟨_, rfl⟩
  obtain ⟨C, hC⟩ : ∃ E, cC b = E := ⟨_, rfl⟩
  obtain ⟨T, hT⟩ : ∃ E, cT b = E := ⟨_, rfl⟩
  obtain ⟨Z, hZ⟩ : ∃ E, cS b = E := ⟨_, rfl⟩
  rw [h0, hP, hC, hT, hZ] at S
  rw [hZ] at h1 hs
  rw [hP] at h2
  obtain rfl : Z = n := by omega
  obtain ⟨V, hV⟩ : ∃ V, tlV (b.drop 4) = V := ⟨_, rfl⟩
  have S2 := hide (fun W A n c h => rtrail_any A n c (b.drop 4) W h V hV)
  have hPt : P = true ∧ (((V : Int) == 0) = true ∨ (((V : Int) == 0) = false ∧ ((V : Int) % 4 != 0) = true)) := by
    unfold trE at h2
    split at h2
    · rename_i q
      refine ⟨q.1, ?_⟩
      by_cases q2 : V = 0
      · exact .inl (by simp [q2])
      · refine .inr ⟨by simp [q2], ?_⟩
        have q3 : tlE (b.drop 4) = 0 := by
          rcases tlE_or (b.drop 4) with q3 | q3
          · exact q3
          · exfalso; apply q2; rw [← hV]; unfold tlV; rw [q3]; rfl
        have q4 : tlN (b.drop 4) = V := by rw [← hV]; unfold tlV; rw [if_pos q3]
        rw [q4, q3] at q
        rw [bne_iff_ne]
        omega
    · exact absurd rfl h2
  obtain ⟨rfl, hPt⟩ := hPt
  have hnc := hb.le
  have hcm := hb.reach
  have n4 : (4 : Int) ≤ (Z : Int) := by omega
  have hd : Bytes w (if c = 4 then (some ⟨g, o, none⟩ : Option Addr) else some ⟨g, o + 4, none⟩) (Z - 4) (c - 4) (b.drop 4) := by
    have := hb.subIf (lo := 4) (hi := Z) (by omega) (by omega)
    simp only [Option.map_some, add_base] at this
    rwa [List.take_of_length_le (by rw [List.length_drop]; omega)] at this
  obtain ⟨o', ho'⟩ : ∃ o', (if c = 4 then (some ⟨g, o, none⟩ : Option Addr) else some ⟨g, o + 4, none⟩) = some ⟨g, o', none⟩ := by split <;> exact ⟨_, rfl⟩
  rw [ho'] at hd
  have j1 : (V : Int).tmod 4 = (V : Int) % 4 := Int.tmod_eq_emod_of_nonneg (by omega)
  clear h0 hP hC hT hZ h1 h2 hlen hV hz hs
  have hbz := Blk.new w 66 #[.bool false, .int .i64 0, .int .i64 0, .int .i64 0, .slice none 0 0, .int .i64 0]
  have hE0 := (Ext.refl w).alloc (.cells #[.bool false, .int .i64 0, .int .i64 0, .int .i64 0, .slice none 0 0, .int .i64 0] 66)
  rcases hPt with q0 | ⟨q0, q1⟩
  all_goals
    go_enter Try.func36, Try.ntmps36
    go_wp2_with fail
    refine (S.out _ (hb.alloc _)).mono ?_
    rintro e w1 ⟨rfl, hE⟩
    have hbc := Blk.new w1 62 #[.bool true, .int .i64 (C : Int), .int .i64 (T : Int), .int .i64 (Z : Int)]
    replace hbz := (hbz.below hE (by simp)).alloc (.cells #[.bool true, .int .i64 (C : Int), .int .i64 (T : Int), .int .i64 (Z : Int)] 62)
    have hE1 := (hE0.trans hE).alloc (.cells #[.bool true, .int .i64 (C : Int), .int .i64 (T : Int), .int .i64 (Z : Int)] 62)
    obtain ⟨⟨r0, r1, r2, r3⟩, _, _⟩ := hbc.four
    obtain ⟨⟨u0, u1, u2, u3, u4, u5⟩, ⟨v0, v1, v2, v3, v4, v5⟩, hlt⟩ := hbz.six
    go_wp2_with fail
    refine (S2.out _ _ _ _ (hd.ext hE1)).mono ?_
    rintro e w2 ⟨rfl, rfl⟩
    go_wp2_with fail
    have hz2 := Blk.put6 (a := .bool false) (b := .int .i64 0) (c := .int .i64 0) (d := .int .i64 0) (e := .slice none 0 0) (f := .int .i64 0) hbz
    obtain ⟨⟨z0, z1, z2, z3, z4, z5⟩, _, _⟩ := hz2.six
    exact bodyPost_ret (v := .tuple #[.agg #[.bool false, .int .i64 0, .int .i64 0, .int .i64 0, .slice none 0 0, .int .i64 0], .int .i64 _]) (by simp [results, Try.results36, go_sem, z0, z1, z2, z3, z4, z5]) rfl ⟨rfl, Ext.put6 hE1 (Nat.le_refl _)⟩
set_option maxRecDepth 100000 in
set_option maxHeartbeats 4000000 in
theorem ropen_ok (A : Option Addr) (n c : Nat) (b : List UInt8) (w : World) (hb : Bytes w A n c b) (hn : n ≤ 1000000) (h0 : cE b = 0) (h1 : ¬ cS b < b.length) (V : Nat) (h2 : trE (cP b) (b.drop 4) = 0) (hV : trN (cP b) (b.drop 4) = V) (hV4 : V + 4 ≤ n) (y : List UInt8) (hy : (b.drop 4).take (n - V - 4) = y) : Calls Try.prog 36 #[.slice A n c] w fun e w' => ∃ A' c', e = .returned (.tuple #[.agg #[.bool (cP b), .int .i64 (cC b : Int), .int .i64 (cT b : Int), .int .i64 (cS b : Int), .slice A' (n - V - 4) c', .int .i64 (V : Int)], .int .i64 0]) ∧ Bytes w' A' (n - V - 4) c' y ∧ Ext w w' := by
  have hlen := hb.len
  obtain ⟨hz0, hs, _, h4⟩ := cBack h0
  obtain ⟨g, o, rfl, hg⟩ := hb.plain (by omega)
  have S := hide (fun W h => rread_any (some ⟨g, o, none⟩) n c b W h)
  obtain ⟨P, hP⟩ : ∃ E, cP b = E := ⟨_, rfl⟩
  obtain ⟨C, hC⟩ : ∃ E, cC b = E := ⟨_, rfl⟩
  obtain ⟨T, hT⟩ : ∃ E, cT b = E := ⟨_, rfl⟩
  obtain ⟨Z, hZ⟩ : ∃ E, cS b = E := ⟨_, rfl⟩
  rw [h0, hP, hC, hT, hZ] at S
  rw [hZ] at h1 hs
  rw [hP] at h2 hV
  rw [hP, hC, hT, hZ]
  obtain ⟨n1, n2, n3, n4', n5⟩ := trN_ok h2
  rw [hV] at n1 n2 n3 n4' n5
  have hZn : ((Z : Int) != (n : Int)) = false := by rw [bne_eq_false_iff_eq]; omega
  have hnc := hb.le
  have hcm := hb.reach
  have n4 : (4 : Int) ≤ (n : Int) := by omega
  have hd : Bytes w (if c = 4 then (some ⟨g, o, none⟩ : Option Addr) else some ⟨g, o + 4, none⟩) (n - 4) (c - 4) (b.drop 4) := by
    have := hb.subIf (lo := 4) (hi := n) (by omega) (by omega)
    simp only [Option.map_some, add_base] at this
    rwa [List.take_of_length_le (by rw [List.length_drop]; omega)] at this
  have hd2 : Bytes w (if c = 4 then (some ⟨g, o, none⟩ : Option Addr) else some ⟨g, o + 4, none⟩) (n - V - 4) (c - 4) y := by
    have := hb.subIf (lo := 4) (hi := n - V) (by omega) (by omega)
    simp only [Option.map_some, add_base] at this
    rwa [hy] at this
  obtain ⟨m, hm⟩ : ∃ m, n - V = m := ⟨_, rfl⟩
  rw [hm] at hd2 ⊢
  have j1 : IntKind.i64.wrap (m : Int) = (m : Int) := IntWalk.i64_in _ (by omega)
  have j3 : (4 : Int) ≤ (m : Int) := by omega
  have j4 : (m : Int) ≤ (c : Int) := by omega
  have m4 : 4 ≤ m := by omega
  have mn : m ≤ n := by omega
  have j2 : (n : Int) - (V : Int) = (m : Int) := by omega
  obtain ⟨o', ho'⟩ : ∃ o', (if c = 4 then (some ⟨g, o, none⟩ : Option Addr) else some ⟨g, o + 4, none⟩) = some ⟨g, o', none⟩ := by split <;> exact ⟨_, rfl⟩
  rw [ho'] at hd hd2
  have hcase : (P = false ∧ V = 0) ∨ (P = true ∧ tlV (b.drop 4) = V ∧ ((V : Int) == 0) = false ∧ ((V : Int) % 4 != 0) = false) := by
    cases P
    · exact .inl ⟨rfl, n4' rfl⟩
    · obtain ⟨q1, q2⟩ := n3 rfl
      refine .inr ⟨rfl, ?_, by rw [beq_eq_false_iff_ne]; omega, by rw [bne_eq_false_iff_eq]; omega⟩
      have q3 : tlE (b.drop 4) = 0 := by
        rcases tlE_or (b.drop 4) with q3 | q3
        · exact q3
        · unfold trE at h2
          rw [q3, if_pos ⟨rfl, .inl (by decide)⟩] at h2
          exact absurd h2 (by decide)
      unfold tlV
      rw [if_pos q3, q2]
  have hbz := Blk.new w 66 #[.bool false, .int .i64 0, .int .i64 0, .int .i64 0, .slice none 0 0, .int .i64 0]
  have hE0 := (Ext.refl w).alloc (.cells #[.bool false, .int .i64 0, .int .i64 0, .int .i64 0, .slice none 0 0, .int .i64 0] 66)
  have J := hide (And.intro j1 j2)
  clear h0 hP hC hT hZ h1 h2 hlen hV hy hV4 hz0 hs n1 n2 n3 n4' n5 hm j1 j2
  rcases hcase with ⟨rfl, rfl⟩ | ⟨rfl, hV, q1, q2⟩
  · obtain rfl : m = n := by have := J.out.2; omega
    go_enter Try.func36, Try.ntmps36
    go_wp2_with fail
    refine (S.out _ (hb.alloc _)).mono ?_
    rintro e w1 ⟨rfl, hE⟩
    have hbc := Blk.new w1 62 #[.bool false, .int .i64 (C : Int), .int .i64 (T : Int), .int .i64 (Z : Int)]
    replace hbz := (hbz.below hE (by simp)).alloc (.cells #[.bool false, .int .i64 (C : Int), .int .i64 (T : Int), .int .i64 (Z : Int)] 62)
    have hE1 := (hE0.trans hE).alloc (.cells #[.bool false, .int .i64 (C : Int), .int .i64 (T : Int), .int .i64 (Z : Int)] 62)
    obtain ⟨⟨r0, r1, r2, r3⟩, _, _⟩ := hbc.four
    go_upto_region 11 with fail
    clear r0 r1 r2 r3
    obtain ⟨gc, hgc⟩ : ∃ g, w1.heap.size = g := ⟨_, rfl⟩
    have hgc0 : w.heap.size ≠ gc := by have := hE.size; simp at this; omega
    rw [hgc] at hbc ⊢
    generalize hgw : w1.alloc (.cells #[.bool false, .int .i64 (C : Int), .int .i64 (T : Int), .int .i64 (Z : Int)] 62) = w3 at *
    clear hgw hgc hE
    obtain ⟨j1, j2⟩ := J.out
    refine regE_start_at (hE1) (by kernel_rfl) ?_
    have hR := (hE1).drew
    replace hbz := hbz.drew
    replace hbc := hbc.drew
    generalize hgw : (w3).drew = wr0 at *
    clear hgw
    refine regE_take (i := 2) (v := ?_) rfl (by kernel_rfl) (by kernel_rfl) (by kernel_rfl) (fun _ _ _ h => h) (by rfl) ?_ ?_
    rotate_left
    · intro W hW; go_simp; try with_reducible rfl
    simp only [Act.put, List.setIfInBounds_toArray, List.set_cons_zero, List.set_cons_succ]
    refine regE_take (i := 3) (v := ?_) rfl (by kernel_rfl) (by kernel_rfl) (by kernel_rfl) (fun _ _ _ h => h) (by rfl) ?_ ?_
    rotate_left
    · intro W hW; go_simp; try with_reducible rfl
    simp only [Act.put, List.setIfInBounds_toArray, List.set_cons_zero, List.set_cons_succ]
    refine regE_take (i := 4) (v := ?_) rfl (by kernel_rfl) (by kernel_rfl) (by kernel_rfl) (fun _ _ _ h => h) (by rfl) ?_ ?_
    rotate_left
    · intro W hW; go_simp; try with_reducible rfl
    simp only [Act.put, List.setIfInBounds_toArray, List.set_cons_zero, List.set_cons_succ]
    refine regE_take (i := 5) (v := ?_) rfl (by kernel_rfl) (by kernel_rfl) (by kernel_rfl) (fun _ _ _ h => h) (by rfl) ?_ ?_
    rotate_left
    · intro W hW; go_simp; try with_reducible rfl
    simp only [Act.put, List.setIfInBounds_toArray, List.set_cons_zero, List.set_cons_succ]
    refine regE_take (i := 6) (v := ?_) rfl (by kernel_rfl) (by kernel_rfl) (by kernel_rfl) (fun _ _ _ h => h) (by rfl) ?_ ?_
    rotate_left
    · intro W hW; go_simp; try with_reducible rfl
    simp only [Act.put, List.setIfInBounds_toArray, List.set_cons_zero, List.set_cons_succ]
    refine regE_take (i := 7) (v := ?_) rfl (by kernel_rfl) (by kernel_rfl) (by kernel_rfl) (fun _ _ _ h => h) (by rfl) ?_ ?_
    rotate_left
    · intro W hW; go_simp; try with_reducible rfl
    simp only [Act.put, List.setIfInBounds_toArray, List.set_cons_zero, List.set_cons_succ]
    refine regE_take (i := 9) (v := ?_) rfl (by kernel_rfl) (by kernel_rfl) (by kernel_rfl) (fun _ _ _ h => h) (by rfl) ?_ ?_
    rotate_left
    · intro W hW; go_simp; try with_reducible rfl
    simp only [Act.put, List.setIfInBounds_toArray, List.set_cons_zero, List.set_cons_succ]
    refine regE_do2 (i0 := 0) (i1 := 1) (by kernel_rfl) rfl rfl (fun K hK => ?_) (fun K hK => ?_)
    · rw [if_pos (by rfl)]
      obtain ⟨⟨u0, u1, u2, u3⟩, _, _⟩ := hbc.four
      go_simp
      refine hK.out _ _ hR ?_
      clear hK K
      try simp only [Act.put, List.setIfInBounds_toArray, List.set_cons_zero, List.set_cons_succ]
      refine regE_do (i := 1) rfl (by kernel_rfl) (fun K hK => ?_)
      rw [if_pos (by rfl)]
      go_simp
      have hOe := own_empty wr0
      have hWE := (Ext.refl wr0).alloc (.cells #[] 5)
      have hbz0 := hbz
      have hbc0 := hbc
      have hR0 := hR
      have hlt0 : w.heap.size < wr0.heap.size := hbz.lt
      refine hK.out _ _ (hR.alloc _) ?_
      clear hK K
      replace hR := hR.alloc (.cells #[] 5)
      replace hbz := hbz.alloc (.cells #[] 5)
      replace hbc := hbc.alloc (.cells #[] 5)
      generalize hgw : wr0.alloc (.cells #[] 5) = wr1 at *
      clear hgw
      try simp only [Act.put, List.setIfInBounds_toArray, List.set_cons_zero, List.set_cons_succ]
      refine regE_do (i := 8) rfl (by kernel_rfl) (fun K hK => ?_)
      rw [if_pos (by rfl)]
      refine wp_appB0 wr0 _ _ rfl hWE _ _ rfl hOe _ (m - 4) (c - 4) y rfl (hd2.ext hR) (by omega) ?_
      intro A' c' wr2 hO hE2
      refine hK.out _ _ (hR0.trans hE2) ?_
      clear hK K
      replace hR := hR0.trans hE2
      replace hbz := hbz0.below hE2 hbz0.lt
      replace hbc := hbc0.below hE2 hbc0.lt
      clear hE2 hWE hOe hbz0 hbc0 hR0
      try simp only [Act.put, List.setIfInBounds_toArray, List.set_cons_zero, List.set_cons_succ]
      refine regE_take (i := 10) (v := ?_) rfl (by kernel_rfl) (by kernel_rfl) (by kernel_rfl) (fun _ _ _ h => h) (by rfl) ?_ ?_
      rotate_left
      · intro W hW; go_simp; try with_reducible rfl
      simp only [Act.put, List.setIfInBounds_toArray, List.set_cons_zero, List.set_cons_succ]
      refine regE_do (i := 11) rfl (by kernel_rfl) (fun K hK => ?_)
      rw [if_pos (by rfl)]
      obtain ⟨⟨z0, z1, z2, z3, z4, z5⟩, ⟨v0, v1, v2, v3, v4, v5⟩, _⟩ := hbz.six
      go_simp
      refine hK.out _ _ (Ext.put6 hR (Nat.le_refl _)) ?_
      clear hK K z0 z1 z2 z3 z4 z5 v0 v1 v2 v3 v4 v5
      replace hbz : Blk ((((((wr2.setCell ⟨w.heap.size, 0, none⟩ (.bool false)).setCell ⟨w.heap.size, 0 + 1, none⟩ (.int .i64 (C : Int))).setCell ⟨w.heap.size, 0 + 2, none⟩ (.int .i64 (T : Int))).setCell ⟨w.heap.size, 0 + 3, none⟩ (.int .i64 (Z : Int))).setCell ⟨w.heap.size, 0 + 4, none⟩ (.slice A' (m - 4) c')).setCell ⟨w.heap.size, 0 + 5, none⟩ (.int .i64 0)) w.heap.size _ _ := Blk.put6 hbz
      replace hO : ((((((wr2.setCell ⟨w.heap.size, 0, none⟩ (.bool false)).setCell ⟨w.heap.size, 0 + 1, none⟩ (.int .i64 (C : Int))).setCell ⟨w.heap.size, 0 + 2, none⟩ (.int .i64 (T : Int))).setCell ⟨w.heap.size, 0 + 3, none⟩ (.int .i64 (Z : Int))).setCell ⟨w.heap.size, 0 + 4, none⟩ (.slice A' (m - 4) c')).setCell ⟨w.heap.size, 0 + 5, none⟩ (.int .i64 0)).ownsRow _ _ _ _ _ _ := own_put6 hO hlt0
      replace hR : Ext w ((((((wr2.setCell ⟨w.heap.size, 0, none⟩ (.bool false)).setCell ⟨w.heap.size, 0 + 1, none⟩ (.int .i64 (C : Int))).setCell ⟨w.heap.size, 0 + 2, none⟩ (.int .i64 (T : Int))).setCell ⟨w.heap.size, 0 + 3, none⟩ (.int .i64 (Z : Int))).setCell ⟨w.heap.size, 0 + 4, none⟩ (.slice A' (m - 4) c')).setCell ⟨w.heap.size, 0 + 5, none⟩ (.int .i64 0)) := Ext.put6 hR (Nat.le_refl _)
      generalize hgw : ((((((wr2.setCell ⟨w.heap.size, 0, none⟩ (.bool false)).setCell ⟨w.heap.size, 0 + 1, none⟩ (.int .i64 (C : Int))).setCell ⟨w.heap.size, 0 + 2, none⟩ (.int .i64 (T : Int))).setCell ⟨w.heap.size, 0 + 3, none⟩ (.int .i64 (Z : Int))).setCell ⟨w.heap.size, 0 + 4, none⟩ (.slice A' (m - 4) c')).setCell ⟨w.heap.size, 0 + 5, none⟩ (.int .i64 0)) = wr3 at *
      clear hgw
      try simp only [Act.put, List.setIfInBounds_toArray, List.set_cons_zero, List.set_cons_succ]
      refine regE_take (i := 12) (v := ?_) rfl (by kernel_rfl) (by kernel_rfl) (by kernel_rfl) (fun _ _ _ h => h) (by rfl) ?_ ?_
      rotate_left
      · intro W hW; go_simp; try with_reducible rfl
      simp only [Act.put, List.setIfInBounds_toArray, List.set_cons_zero, List.set_cons_succ]
      refine regE_done (by kernel_rfl) ?_
      go_wp2_with fail
      obtain ⟨⟨z0, z1, z2, z3, z4, z5⟩, _, _⟩ := hbz.six
      exact bodyPost_ret (v := .tuple #[.agg #[.bool false, .int .i64 (C : Int), .int .i64 (T : Int), .int .i64 (Z : Int), .slice A' (m - 4) c', .int .i64 0], .int .i64 0]) (by simp [results, Try.results36, go_sem, z0, z1, z2, z3, z4, z5]) rfl ⟨A', c', rfl, Bytes.own hO, hR⟩
    · rw [if_pos (by rfl)]
      go_simp
      have hOe := own_empty wr0
      have hWE := (Ext.refl wr0).alloc (.cells #[] 5)
      have hbz0 := hbz
      have hbc0 := hbc
      have hR0 := hR
      have hlt0 : w.heap.size < wr0.heap.size := hbz.lt
      refine hK.out _ _ (hR.alloc _) ?_
      clear hK K
      replace hR := hR.alloc (.cells #[] 5)
      replace hbz := hbz.alloc (.cells #[] 5)
      replace hbc := hbc.alloc (.cells #[] 5)
      generalize hgw : wr0.alloc (.cells #[] 5) = wr1 at *
      clear hgw
      try simp only [Act.put, List.setIfInBounds_toArray, List.set_cons_zero, List.set_cons_succ]
      refine regE_do2 (i0 := 0) (i1 := 8) (by kernel_rfl) rfl rfl (fun K hK => ?_) (fun K hK => ?_)
      · rw [if_pos (by rfl)]
        obtain ⟨⟨u0, u1, u2, u3⟩, _, _⟩ := hbc.four
        go_simp
        refine hK.out _ _ hR ?_
        clear hK K
        try simp only [Act.put, List.setIfInBounds_toArray, List.set_cons_zero, List.set_cons_succ]
        refine regE_do (i := 8) rfl (by kernel_rfl) (fun K hK => ?_)
        rw [if_pos (by rfl)]
        refine wp_appB0 wr0 _ _ rfl hWE _ _ rfl hOe _ (m - 4) (c - 4) y rfl (hd2.ext hR) (by omega) ?_
        intro A' c' wr2 hO hE2
        refine hK.out _ _ (hR0.trans hE2) ?_
        clear hK K
        replace hR := hR0.trans hE2
        replace hbz := hbz0.below hE2 hbz0.lt
        replace hbc := hbc0.below hE2 hbc0.lt
        clear hE2 hWE hOe hbz0 hbc0 hR0
        try simp only [Act.put, List.setIfInBounds_toArray, List.set_cons_zero, List.set_cons_succ]
        refine regE_take (i := 10) (v := ?_) rfl (by kernel_rfl) (by kernel_rfl) (by kernel_rfl) (fun _ _ _ h => h) (by rfl) ?_ ?_
        rotate_left
        · intro W hW; go_simp; try with_reducible rfl
        simp only [Act.put, List.setIfInBounds_toArray, List.set_cons_zero, List.set_cons_succ]
        refine regE_do (i := 11) rfl (by kernel_rfl) (fun K hK => ?_)
        rw [if_pos (by rfl)]
        obtain ⟨⟨z0, z1, z2, z3, z4, z5⟩, ⟨v0, v1, v2, v3, v4, v5⟩, _⟩ := hbz.six
        go_simp
        refine hK.out _ _ (Ext.put6 hR (Nat.le_refl _)) ?_
        clear hK K z0 z1 z2 z3 z4 z5 v0 v1 v2 v3 v4 v5
        replace hbz : Blk ((((((wr2.setCell ⟨w.heap.size, 0, none⟩ (.bool false)).setCell ⟨w.heap.size, 0 + 1, none⟩ (.int .i64 (C : Int))).setCell ⟨w.heap.size, 0 + 2, none⟩ (.int .i64 (T : Int))).setCell ⟨w.heap.size, 0 + 3, none⟩ (.int .i64 (Z : Int))).setCell ⟨w.heap.size, 0 + 4, none⟩ (.slice A' (m - 4) c')).setCell ⟨w.heap.size, 0 + 5, none⟩ (.int .i64 0)) w.heap.size _ _ := Blk.put6 hbz
        replace hO : ((((((wr2.setCell ⟨w.heap.size, 0, none⟩ (.bool false)).setCell ⟨w.heap.size, 0 + 1, none⟩ (.int .i64 (C : Int))).setCell ⟨w.heap.size, 0 + 2, none⟩ (.int .i64 (T : Int))).setCell ⟨w.heap.size, 0 + 3, none⟩ (.int .i64 (Z : Int))).setCell ⟨w.heap.size, 0 + 4, none⟩ (.slice A' (m - 4) c')).setCell ⟨w.heap.size, 0 + 5, none⟩ (.int .i64 0)).ownsRow _ _ _ _ _ _ := own_put6 hO hlt0
        replace hR : Ext w ((((((wr2.setCell ⟨w.heap.size, 0, none⟩ (.bool false)).setCell ⟨w.heap.size, 0 + 1, none⟩ (.int .i64 (C : Int))).setCell ⟨w.heap.size, 0 + 2, none⟩ (.int .i64 (T : Int))).setCell ⟨w.heap.size, 0 + 3, none⟩ (.int .i64 (Z : Int))).setCell ⟨w.heap.size, 0 + 4, none⟩ (.slice A' (m - 4) c')).setCell ⟨w.heap.size, 0 + 5, none⟩ (.int .i64 0)) := Ext.put6 hR (Nat.le_refl _)
        generalize hgw : ((((((wr2.setCell ⟨w.heap.size, 0, none⟩ (.bool false)).setCell ⟨w.heap.size, 0 + 1, none⟩ (.int .i64 (C : Int))).setCell ⟨w.heap.size, 0 + 2, none⟩ (.int .i64 (T : Int))).setCell ⟨w.heap.size, 0 + 3, none⟩ (.int .i64 (Z : Int))).setCell ⟨w.heap.size, 0 + 4, none⟩ (.slice A' (m - 4) c')).setCell ⟨w.heap.size, 0 + 5, none⟩ (.int .i64 0)) = wr3 at *
        clear hgw
        try simp only [Act.put, List.setIfInBounds_toArray, List.set_cons_zero, List.set_cons_succ]
        refine regE_take (i := 12) (v := ?_) rfl (by kernel_rfl) (by kernel_rfl) (by kernel_rfl) (fun _ _ _ h => h) (by rfl) ?_ ?_
        rotate_left
        · intro W hW; go_simp; try with_reducible rfl
        simp only [Act.put, List.setIfInBounds_toArray, List.set_cons_zero, List.set_cons_succ]
        refine regE_done (by kernel_rfl) ?_
        go_wp2_with fail
        obtain ⟨⟨z0, z1, z2, z3, z4, z5⟩, _, _⟩ := hbz.six
        exact bodyPost_ret (v := .tuple #[.agg #[.bool false, .int .i64 (C : Int), .int .i64 (T : Int), .int .i64 (Z : Int), .slice A' (m - 4) c', .int .i64 0], .int .i64 0]) (by simp [results, Try.results36, go_sem, z0, z1, z2, z3, z4, z5]) rfl ⟨A', c', rfl, Bytes.own hO, hR⟩
      · rw [if_pos (by rfl)]
        refine wp_appB0 wr0 _ _ rfl hWE _ _ rfl hOe _ (m - 4) (c - 4) y rfl (hd2.ext hR) (by omega) ?_
        intro A' c' wr2 hO hE2
        refine hK.out _ _ (hR0.trans hE2) ?_
        clear hK K
        replace hR := hR0.trans hE2
        replace hbz := hbz0.below hE2 hbz0.lt
        replace hbc := hbc0.below hE2 hbc0.lt
        clear hE2 hWE hOe hbz0 hbc0 hR0
        try simp only [Act.put, List.setIfInBounds_toArray, List.set_cons_zero, List.set_cons_succ]
        refine regE_do (i := 0) rfl (by kernel_rfl) (fun K hK => ?_)
        rw [if_pos (by rfl)]
        obtain ⟨⟨u0, u1, u2, u3⟩, _, _⟩ := hbc.four
        go_simp
        refine hK.out _ _ hR ?_
        clear hK K
        try simp only [Act.put, List.setIfInBounds_toArray, List.set_cons_zero, List.set_cons_succ]
        refine regE_take (i := 10) (v := ?_) rfl (by kernel_rfl) (by kernel_rfl) (by kernel_rfl) (fun _ _ _ h => h) (by rfl) ?_ ?_
        rotate_left
        · intro W hW; go_simp; try with_reducible rfl
        simp only [Act.put, List.setIfInBounds_toArray, List.set_cons_zero, List.set_cons_succ]
        refine regE_do (i := 11) rfl (by kernel_rfl) (fun K hK => ?_)
        rw [if_pos (by rfl)]
        obtain ⟨⟨z0, z1, z2, z3, z4, z5⟩, ⟨v0, v1, v2, v3, v4, v5⟩, _⟩ := hbz.six
        go_simp
        refine hK.out _ _ (Ext.put6 hR (Nat.le_refl _)) ?_
        clear hK K z0 z1 z2 z3 z4 z5 v0 v1 v2 v3 v4 v5
        replace hbz : Blk ((((((wr2.setCell ⟨w.heap.size, 0, none⟩ (.bool false)).setCell ⟨w.heap.size, 0 + 1, none⟩ (.int .i64 (C : Int))).setCell ⟨w.heap.size, 0 + 2, none⟩ (.int .i64 (T : Int))).setCell ⟨w.heap.size, 0 + 3, none⟩ (.int .i64 (Z : Int))).setCell ⟨w.heap.size, 0 + 4, none⟩ (.slice A' (m - 4) c')).setCell ⟨w.heap.size, 0 + 5, none⟩ (.int .i64 0)) w.heap.size _ _ := Blk.put6 hbz
        replace hO : ((((((wr2.setCell ⟨w.heap.size, 0, none⟩ (.bool false)).setCell ⟨w.heap.size, 0 + 1, none⟩ (.int .i64 (C : Int))).setCell ⟨w.heap.size, 0 + 2, none⟩ (.int .i64 (T : Int))).setCell ⟨w.heap.size, 0 + 3, none⟩ (.int .i64 (Z : Int))).setCell ⟨w.heap.size, 0 + 4, none⟩ (.slice A' (m - 4) c')).setCell ⟨w.heap.size, 0 + 5, none⟩ (.int .i64 0)).ownsRow _ _ _ _ _ _ := own_put6 hO hlt0
        replace hR : Ext w ((((((wr2.setCell ⟨w.heap.size, 0, none⟩ (.bool false)).setCell ⟨w.heap.size, 0 + 1, none⟩ (.int .i64 (C : Int))).setCell ⟨w.heap.size, 0 + 2, none⟩ (.int .i64 (T : Int))).setCell ⟨w.heap.size, 0 + 3, none⟩ (.int .i64 (Z : Int))).setCell ⟨w.heap.size, 0 + 4, none⟩ (.slice A' (m - 4) c')).setCell ⟨w.heap.size, 0 + 5, none⟩ (.int .i64 0)) := Ext.put6 hR (Nat.le_refl _)
        generalize hgw : ((((((wr2.setCell ⟨w.heap.size, 0, none⟩ (.bool false)).setCell ⟨w.heap.size, 0 + 1, none⟩ (.int .i64 (C : Int))).setCell ⟨w.heap.size, 0 + 2, none⟩ (.int .i64 (T : Int))).setCell ⟨w.heap.size, 0 + 3, none⟩ (.int .i64 (Z : Int))).setCell ⟨w.heap.size, 0 + 4, none⟩ (.slice A' (m - 4) c')).setCell ⟨w.heap.size, 0 + 5, none⟩ (.int .i64 0)) = wr3 at *
        clear hgw
        try simp only [Act.put, List.setIfInBounds_toArray, List.set_cons_zero, List.set_cons_succ]
        refine regE_take (i := 12) (v := ?_) rfl (by kernel_rfl) (by kernel_rfl) (by kernel_rfl) (fun _ _ _ h => h) (by rfl) ?_ ?_
        rotate_left
        · intro W hW; go_simp; try with_reducible rfl
        simp only [Act.put, List.setIfInBounds_toArray, List.set_cons_zero, List.set_cons_succ]
        refine regE_done (by kernel_rfl) ?_
        go_wp2_with fail
        obtain ⟨⟨z0, z1, z2, z3, z4, z5⟩, _, _⟩ := hbz.six
        exact bodyPost_ret (v := .tuple #[.agg #[.bool false, .int .i64 (C : Int), .int .i64 (T : Int), .int .i64 (Z : Int), .slice A' (m - 4) c', .int .i64 0], .int .i64 0]) (by simp [results, Try.results36, go_sem, z0, z1, z2, z3, z4, z5]) rfl ⟨A', c', rfl, Bytes.own hO, hR⟩
  · have S2 := hide (fun W A n c h => rtrail_any A n c (b.drop 4) W h V hV)
    have k1 : (V : Int).tmod 4 = (V : Int) % 4 := Int.tmod_eq_emod_of_nonneg (by omega)
    clear hV
    go_enter Try.func36, Try.ntmps36
    go_wp2_with fail
    refine (S.out _ (hb.alloc _)).mono ?_
    rintro e w1 ⟨rfl, hE⟩
    have hbc := Blk.new w1 62 #[.bool true, .int .i64 (C : Int), .int .i64 (T : Int), .int .i64 (Z : Int)]
    replace hbz := (hbz.below hE (by simp)).alloc (.cells #[.bool true, .int .i64 (C : Int), .int .i64 (T : Int), .int .i64 (Z : Int)] 62)
    have hE1 := (hE0.trans hE).alloc (.cells #[.bool true, .int .i64 (C : Int), .int .i64 (T : Int), .int .i64 (Z : Int)] 62)
    obtain ⟨⟨r0, r1, r2, r3⟩, _, _⟩ := hbc.four
    go_wp2_with fail
    refine (S2.out _ _ _ _ (hd.ext hE1)).mono ?_
    rintro e w2 ⟨rfl, rfl⟩
    go_upto_region 11 with fail
    clear r0 r1 r2 r3
    obtain ⟨gc, hgc⟩ : ∃ g, w1.heap.size = g := ⟨_, rfl⟩
    have hgc0 : w.heap.size ≠ gc := by have := hE.size; simp at this; omega
    rw [hgc] at hbc ⊢
    generalize hgw : w1.alloc (.cells #[.bool true, .int .i64 (C : Int), .int .i64 (T : Int), .int .i64 (Z : Int)] 62) = w3 at *
    clear hgw hgc hE
    obtain ⟨j1, j2⟩ := J.out
    refine regE_start_at (hE1) (by kernel_rfl) ?_
    have hR := (hE1).drew
    replace hbz := hbz.drew
    replace hbc := hbc.drew
    generalize hgw : (w3).drew = wr0 at *
    clear hgw
    refine regE_take (i := 2) (v := ?_) rfl (by kernel_rfl) (by kernel_rfl) (by kernel_rfl) (fun _ _ _ h => h) (by rfl) ?_ ?_
    rotate_left
    · intro W hW; go_simp; try with_reducible rfl
    simp only [Act.put, List.setIfInBounds_toArray, List.set_cons_zero, List.set_cons_succ]
    refine regE_take (i := 3) (v := ?_) rfl (by kernel_rfl) (by kernel_rfl) (by kernel_rfl) (fun _ _ _ h => h) (by rfl) ?_ ?_
    rotate_left
    · intro W hW; go_simp; try with_reducible rfl
    simp only [Act.put, List.setIfInBounds_toArray, List.set_cons_zero, List.set_cons_succ]
    refine regE_take (i := 4) (v := ?_) rfl (by kernel_rfl) (by kernel_rfl) (by kernel_rfl) (fun _ _ _ h => h) (by rfl) ?_ ?_
    rotate_left
    · intro W hW; go_simp; try with_reducible rfl
    simp only [Act.put, List.setIfInBounds_toArray, List.set_cons_zero, List.set_cons_succ]
    refine regE_take (i := 5) (v := ?_) rfl (by kernel_rfl) (by kernel_rfl) (by kernel_rfl) (fun _ _ _ h => h) (by rfl) ?_ ?_
    rotate_left
    · intro W hW; go_simp; try with_reducible rfl
    simp only [Act.put, List.setIfInBounds_toArray, List.set_cons_zero, List.set_cons_succ]
    refine regE_take (i := 6) (v := ?_) rfl (by kernel_rfl) (by kernel_rfl) (by kernel_rfl) (fun _ _ _ h => h) (by rfl) ?_ ?_
    rotate_left
    · intro W hW; go_simp; try with_reducible rfl
    simp only [Act.put, List.setIfInBounds_toArray, List.set_cons_zero, List.set_cons_succ]
    refine regE_take (i := 7) (v := ?_) rfl (by kernel_rfl) (by kernel_rfl) (by kernel_rfl) (fun _ _ _ h => h) (by rfl) ?_ ?_
    rotate_left
    · intro W hW; go_simp; try with_reducible rfl
    simp only [Act.put, List.setIfInBounds_toArray, List.set_cons_zero, List.set_cons_succ]
    refine regE_take (i := 9) (v := ?_) rfl (by kernel_rfl) (by kernel_rfl) (by kernel_rfl) (fun _ _ _ h => h) (by rfl) ?_ ?_
    rotate_left
    · intro W hW; go_simp; try with_reducible rfl
    simp only [Act.put, List.setIfInBounds_toArray, List.set_cons_zero, List.set_cons_succ]
    refine regE_do2 (i0 := 0) (i1 := 1) (by kernel_rfl) rfl rfl (fun K hK => ?_) (fun K hK => ?_)
    · rw [if_pos (by rfl)]
      obtain ⟨⟨u0, u1, u2, u3⟩, _, _⟩ := hbc.four
      go_simp
      refine hK.out _ _ hR ?_
      clear hK K
      try simp only [Act.put, List.setIfInBounds_toArray, List.set_cons_zero, List.set_cons_succ]
      refine regE_do (i := 1) rfl (by kernel_rfl) (fun K hK => ?_)
      rw [if_pos (by rfl)]
      go_simp
      have hOe := own_empty wr0
      have hWE := (Ext.refl wr0).alloc (.cells #[] 5)
      have hbz0 := hbz
      have hbc0 := hbc
      have hR0 := hR
      have hlt0 : w.heap.size < wr0.heap.size := hbz.lt
      refine hK.out _ _ (hR.alloc _) ?_
      clear hK K
      replace hR := hR.alloc (.cells #[] 5)
      replace hbz := hbz.alloc (.cells #[] 5)
      replace hbc := hbc.alloc (.cells #[] 5)
      generalize hgw : wr0.alloc (.cells #[] 5) = wr1 at *
      clear hgw
      try simp only [Act.put, List.setIfInBounds_toArray, List.set_cons_zero, List.set_cons_succ]
      refine regE_do (i := 8) rfl (by kernel_rfl) (fun K hK => ?_)
      rw [if_pos (by rfl)]
      refine wp_appB0 wr0 _ _ rfl hWE _ _ rfl hOe _ (m - 4) (c - 4) y rfl (hd2.ext hR) (by omega) ?_
      intro A' c' wr2 hO hE2
      refine hK.out _ _ (hR0.trans hE2) ?_
      clear hK K
      replace hR := hR0.trans hE2
      replace hbz := hbz0.below hE2 hbz0.lt
      replace hbc := hbc0.below hE2 hbc0.lt
      clear hE2 hWE hOe hbz0 hbc0 hR0
      try simp only [Act.put, List.setIfInBounds_toArray, List.set_cons_zero, List.set_cons_succ]
      refine regE_take (i := 10) (v := ?_) rfl (by kernel_rfl) (by kernel_rfl) (by kernel_rfl) (fun _ _ _ h => h) (by rfl) ?_ ?_
      rotate_left
      · intro W hW; go_simp; try with_reducible rfl
      simp only [Act.put, List.setIfInBounds_toArray, List.set_cons_zero, List.set_cons_succ]
      refine regE_do (i := 11) rfl (by kernel_rfl) (fun K hK => ?_)
      rw [if_pos (by rfl)]
      obtain ⟨⟨z0, z1, z2, z3, z4, z5⟩, ⟨v0, v1, v2, v3, v4, v5⟩, _⟩ := hbz.six
      go_simp
      refine hK.out _ _ (Ext.put6 hR (Nat.le_refl _)) ?_
      clear hK K z0 z1 z2 z3 z4 z5 v0 v1 v2 v3 v4 v5
      replace hbz : Blk ((((((wr2.setCell ⟨w.heap.size, 0, none⟩ (.bool true)).setCell ⟨w.heap.size, 0 + 1, none⟩ (.int .i64 (C : Int))).setCell ⟨w.heap.size, 0 + 2, none⟩ (.int .i64 (T : Int))).setCell ⟨w.heap.size, 0 + 3, none⟩ (.int .i64 (Z : Int))).setCell ⟨w.heap.size, 0 + 4, none⟩ (.slice A' (m - 4) c')).setCell ⟨w.heap.size, 0 + 5, none⟩ (.int .i64 (V : Int))) w.heap.size _ _ := Blk.put6 hbz
      replace hO : ((((((wr2.setCell ⟨w.heap.size, 0, none⟩ (.bool true)).setCell ⟨w.heap.size, 0 + 1, none⟩ (.int .i64 (C : Int))).setCell ⟨w.heap.size, 0 + 2, none⟩ (.int .i64 (T : Int))).setCell ⟨w.heap.size, 0 + 3, none⟩ (.int .i64 (Z : Int))).setCell ⟨w.heap.size, 0 + 4, none⟩ (.slice A' (m - 4) c')).setCell ⟨w.heap.size, 0 + 5, none⟩ (.int .i64 (V : Int))).ownsRow _ _ _ _ _ _ := own_put6 hO hlt0
      replace hR : Ext w ((((((wr2.setCell ⟨w.heap.size, 0, none⟩ (.bool true)).setCell ⟨w.heap.size, 0 + 1, none⟩ (.int .i64 (C : Int))).setCell ⟨w.heap.size, 0 + 2, none⟩ (.int .i64 (T : Int))).setCell ⟨w.heap.size, 0 + 3, none⟩ (.int .i64 (Z : Int))).setCell ⟨w.heap.size, 0 + 4, none⟩ (.slice A' (m - 4) c')).setCell ⟨w.heap.size, 0 + 5, none⟩ (.int .i64 (V : Int))) := Ext.put6 hR (Nat.le_refl _)
      generalize hgw : ((((((wr2.setCell ⟨w.heap.size, 0, none⟩ (.bool true)).setCell ⟨w.heap.size, 0 + 1, none⟩ (.int .i64 (C : Int))).setCell ⟨w.heap.size, 0 + 2, none⟩ (.int .i64 (T : Int))).setCell ⟨w.heap.size, 0 + 3, none⟩ (.int .i64 (Z : Int))).setCell ⟨w.heap.size, 0 + 4, none⟩ (.slice A' (m - 4) c')).setCell ⟨w.heap.size, 0 + 5, none⟩ (.int .i64 (V : Int))) = wr3 at *
      clear hgw
      try simp only [Act.put, List.setIfInBounds_toArray, List.set_cons_zero, List.set_cons_succ]
      refine regE_take (i := 12) (v := ?_) rfl (by kernel_rfl) (by kernel_rfl) (by kernel_rfl) (fun _ _ _ h => h) (by rfl) ?_ ?_
      rotate_left
      · intro W hW; go_simp; try with_reducible rfl
      simp only [Act.put, List.setIfInBounds_toArray, List.set_cons_zero, List.set_cons_succ]
      refine regE_done (by kernel_rfl) ?_
      go_wp2_with fail
      obtain ⟨⟨z0, z1, z2, z3, z4, z5⟩, _, _⟩ := hbz.six
      exact bodyPost_ret (v := .tuple #[.agg #[.bool true, .int .i64 (C : Int), .int .i64 (T : Int), .int .i64 (Z : Int), .slice A' (m - 4) c', .int .i64 (V : Int)], .int .i64 0]) (by simp [results, Try.results36, go_sem, z0, z1, z2, z3, z4, z5]) rfl ⟨A', c', rfl, Bytes.own hO, hR⟩
    · rw [if_pos (by rfl)]
      go_simp
      have hOe := own_empty wr0
      have hWE := (Ext.refl wr0).alloc (.cells #[] 5)
      have hbz0 := hbz
      have hbc0 := hbc
      have hR0 := hR
      have hlt0 : w.heap.size < wr0.heap.size := hbz.lt
      refine hK.out _ _ (hR.alloc _) ?_
      clear hK K
      replace hR := hR.alloc (.cells #[] 5)
      replace hbz := hbz.alloc (.cells #[] 5)
      replace hbc := hbc.alloc (.cells #[] 5)
      generalize hgw : wr0.alloc (.cells #[] 5) = wr1 at *
      clear hgw
      try simp only [Act.put, List.setIfInBounds_toArray, List.set_cons_zero, List.set_cons_succ]
      refine regE_do2 (i0 := 0) (i1 := 8) (by kernel_rfl) rfl rfl (fun K hK => ?_) (fun K hK => ?_)
      · rw [if_pos (by rfl)]
        obtain ⟨⟨u0, u1, u2, u3⟩, _, _⟩ := hbc.four
        go_simp
        refine hK.out _ _ hR ?_
        clear hK K
        try simp only [Act.put, List.setIfInBounds_toArray, List.set_cons_zero, List.set_cons_succ]
        refine regE_do (i := 8) rfl (by kernel_rfl) (fun K hK => ?_)
        rw [if_pos (by rfl)]
        refine wp_appB0 wr0 _ _ rfl hWE _ _ rfl hOe _ (m - 4) (c - 4) y rfl (hd2.ext hR) (by omega) ?_
        intro A' c' wr2 hO hE2
        refine hK.out _ _ (hR0.trans hE2) ?_
        clear hK K
        replace hR := hR0.trans hE2
        replace hbz := hbz0.below hE2 hbz0.lt
        replace hbc := hbc0.below hE2 hbc0.lt
        clear hE2 hWE hOe hbz0 hbc0 hR0
        try simp only [Act.put, List.setIfInBounds_toArray, List.set_cons_zero, List.set_cons_succ]
        refine regE_take (i := 10) (v := ?_) rfl (by kernel_rfl) (by kernel_rfl) (by kernel_rfl) (fun _ _ _ h => h) (by rfl) ?_ ?_
        rotate_left
        · intro W hW; go_simp; try with_reducible rfl
        simp only [Act.put, List.setIfInBounds_toArray, List.set_cons_zero, List.set_cons_succ]
        refine regE_do (i := 11) rfl (by kernel_rfl) (fun K hK => ?_)
        rw [if_pos (by rfl)]
        obtain ⟨⟨z0, z1, z2, z3, z4, z5⟩, ⟨v0, v1, v2, v3, v4, v5⟩, _⟩ := hbz.six
        go_simp
        refine hK.out _ _ (Ext.put6 hR (Nat.le_refl _)) ?_
        clear hK K z0 z1 z2 z3 z4 z5 v0 v1 v2 v3 v4 v5
        replace hbz : Blk ((((((wr2.setCell ⟨w.heap.size, 0, none⟩ (.bool true)).setCell ⟨w.heap.size, 0 + 1, none⟩ (.int .i64 (C : Int))).setCell ⟨w.heap.size, 0 + 2, none⟩ (.int .i64 (T : Int))).setCell ⟨w.heap.size, 0 + 3, none⟩ (.int .i64 (Z : Int))).setCell ⟨w.heap.size, 0 + 4, none⟩ (.slice A' (m - 4) c')).setCell ⟨w.heap.size, 0 + 5, none⟩ (.int .i64 (V : Int))) w.heap.size _ _ := Blk.put6 hbz
        replace hO : ((((((wr2.setCell ⟨w.heap.size, 0, none⟩ (.bool true)).setCell ⟨w.heap.size, 0 + 1, none⟩ (.int .i64 (C : Int))).setCell ⟨w.heap.size, 0 + 2, none⟩ (.int .i64 (T : Int))).setCell ⟨w.heap.size, 0 + 3, none⟩ (.int .i64 (Z : Int))).setCell ⟨w.heap.size, 0 + 4, none⟩ (.slice A' (m - 4) c')).setCell ⟨w.heap.size, 0 + 5, none⟩ (.int .i64 (V : Int))).ownsRow _ _ _ _ _ _ := own_put6 hO hlt0
        replace hR : Ext w ((((((wr2.setCell ⟨w.heap.size, 0, none⟩ (.bool true)).setCell ⟨w.heap.size, 0 + 1, none⟩ (.int .i64 (C : Int))).setCell ⟨w.heap.size, 0 + 2, none⟩ (.int .i64 (T : Int))).setCell ⟨w.heap.size, 0 + 3, none⟩ (.int .i64 (Z : Int))).setCell ⟨w.heap.size, 0 + 4, none⟩ (.slice A' (m - 4) c')).setCell ⟨w.heap.size, 0 + 5, none⟩ (.int .i64 (V : Int))) := Ext.put6 hR (Nat.le_refl _)
        generalize hgw : ((((((wr2.setCell ⟨w.heap.size, 0, none⟩ (.bool true)).setCell ⟨w.heap.size, 0 + 1, none⟩ (.int .i64 (C : Int))).setCell ⟨w.heap.size, 0 + 2, none⟩ (.int .i64 (T : Int))).setCell ⟨w.heap.size, 0 + 3, none⟩ (.int .i64 (Z : Int))).setCell ⟨w.heap.size, 0 + 4, none⟩ (.slice A' (m - 4) c')).setCell ⟨w.heap.size, 0 + 5, none⟩ (.int .i64 (V : Int))) = wr3 at *
        clear hgw
        try simp only [Act.put, List.setIfInBounds_toArray, List.set_cons_zero, List.set_cons_succ]
        refine regE_take (i := 12) (v := ?_) rfl (by kernel_rfl) (by kernel_rfl) (by kernel_rfl) (fun _ _ _ h => h) (by rfl) ?_ ?_
        rotate_left
        · intro W hW; go_simp; try with_reducible rfl
        simp only [Act.put, List.setIfInBounds_toArray, List.set_cons_zero, List.set_cons_succ]
        refine regE_done (by kernel_rfl) ?_
        go_wp2_with fail
        obtain ⟨⟨z0, z1, z2, z3, z4, z5⟩, _, _⟩ := hbz.six
        exact bodyPost_ret (v := .tuple #[.agg #[.bool true, .int .i64 (C : Int), .int .i64 (T : Int), .int .i64 (Z : Int), .slice A' (m - 4) c', .int .i64 (V : Int)], .int .i64 0]) (by simp [results, Try.results36, go_sem, z0, z1, z2, z3, z4, z5]) rfl ⟨A', c', rfl, Bytes.own hO, hR⟩
      · rw [if_pos (by rfl)]
        refine wp_appB0 wr0 _ _ rfl hWE _ _ rfl hOe _ (m - 4) (c - 4) y rfl (hd2.ext hR) (by omega) ?_
        intro A' c' wr2 hO hE2
        refine hK.out _ _ (hR0.trans hE2) ?_
        clear hK K
        replace hR := hR0.trans hE2
        replace hbz := hbz0.below hE2 hbz0.lt
        replace hbc := hbc0.below hE2 hbc0.lt
        clear hE2 hWE hOe hbz0 hbc0 hR0
        try simp only [Act.put, List.setIfInBounds_toArray, List.set_cons_zero, List.set_cons_succ]
        refine regE_do (i := 0) rfl (by kernel_rfl) (fun K hK => ?_)
        rw [if_pos (by rfl)]
        obtain ⟨⟨u0, u1, u2, u3⟩, _, _⟩ := hbc.four
        go_simp
        refine hK.out _ _ hR ?_
        clear hK K
        try simp only [Act.put, List.setIfInBounds_toArray, List.set_cons_zero, List.set_cons_succ]
        refine regE_take (i := 10) (v := ?_) rfl (by kernel_rfl) (by kernel_rfl) (by kernel_rfl) (fun _ _ _ h => h) (by rfl) ?_ ?_
        rotate_left
        · intro W hW; go_simp; try with_reducible rfl
        simp only [Act.put, List.setIfInBounds_toArray, List.set_cons_zero, List.set_cons_succ]
        refine regE_do (i := 11) rfl (by kernel_rfl) (fun K hK => ?_)
        rw [if_pos (by rfl)]
        obtain ⟨⟨z0, z1, z2, z3, z4, z5⟩, ⟨v0, v1, v2, v3, v4, v5⟩, _⟩ := hbz.six
        go_simp
        refine hK.out _ _ (Ext.put6 hR (Nat.le_refl _)) ?_
        clear hK K z0 z1 z2 z3 z4 z5 v0 v1 v2 v3 v4 v5
        replace hbz : Blk ((((((wr2.setCell ⟨w.heap.size, 0, none⟩ (.bool true)).setCell ⟨w.heap.size, 0 + 1, none⟩ (.int .i64 (C : Int))).setCell ⟨w.heap.size, 0 + 2, none⟩ (.int .i64 (T : Int))).setCell ⟨w.heap.size, 0 + 3, none⟩ (.int .i64 (Z : Int))).setCell ⟨w.heap.size, 0 + 4, none⟩ (.slice A' (m - 4) c')).setCell ⟨w.heap.size, 0 + 5, none⟩ (.int .i64 (V : Int))) w.heap.size _ _ := Blk.put6 hbz
        replace hO : ((((((wr2.setCell ⟨w.heap.size, 0, none⟩ (.bool true)).setCell ⟨w.heap.size, 0 + 1, none⟩ (.int .i64 (C : Int))).setCell ⟨w.heap.size, 0 + 2, none⟩ (.int .i64 (T : Int))).setCell ⟨w.heap.size, 0 + 3, none⟩ (.int .i64 (Z : Int))).setCell ⟨w.heap.size, 0 + 4, none⟩ (.slice A' (m - 4) c')).setCell ⟨w.heap.size, 0 + 5, none⟩ (.int .i64 (V : Int))).ownsRow _ _ _ _ _ _ := own_put6 hO hlt0
        replace hR : Ext w ((((((wr2.setCell ⟨w.heap.size, 0, none⟩ (.bool true)).setCell ⟨w.heap.size, 0 + 1, none⟩ (.int .i64 (C : Int))).setCell ⟨w.heap.size, 0 + 2, none⟩ (.int .i64 (T : Int))).setCell ⟨w.heap.size, 0 + 3, none⟩ (.int .i64 (Z : Int))).setCell ⟨w.heap.size, 0 + 4, none⟩ (.slice A' (m - 4) c')).setCell ⟨w.heap.size, 0 + 5, none⟩ (.int .i64 (V : Int))) := Ext.put6 hR (Nat.le_refl _)
        generalize hgw : ((((((wr2.setCell ⟨w.heap.size, 0, none⟩ (.bool true)).setCell ⟨w.heap.size, 0 + 1, none⟩ (.int .i64 (C : Int))).setCell ⟨w.heap.size, 0 + 2, none⟩ (.int .i64 (T : Int))).setCell ⟨w.heap.size, 0 + 3, none⟩ (.int .i64 (Z : Int))).setCell ⟨w.heap.size, 0 + 4, none⟩ (.slice A' (m - 4) c')).setCell ⟨w.heap.size, 0 + 5, none⟩ (.int .i64 (V : Int))) = wr3 at *
        clear hgw
        try simp only [Act.put, List.setIfInBounds_toArray, List.set_cons_zero, List.set_cons_succ]
        refine regE_take (i := 12) (v := ?_) rfl (by kernel_rfl) (by kernel_rfl) (by kernel_rfl) (fun _ _ _ h => h) (by rfl) ?_ ?_
        rotate_left
        · intro W hW; go_simp; try with_reducible rfl
        simp only [Act.put, List.setIfInBounds_toArray, List.set_cons_zero, List.set_cons_succ]
        refine regE_done (by kernel_rfl) ?_
        go_wp2_with fail
        obtain ⟨⟨z0, z1, z2, z3, z4, z5⟩, _, _⟩ := hbz.six
        exact bodyPost_ret (v := .tuple #[.agg #[.bool true, .int .i64 (C : Int), .int .i64 (T : Int), .int .i64 (Z : Int), .slice A' (m - 4) c', .int .i64 (V : Int)], .int .i64 0]) (by simp [results, Try.results36, go_sem, z0, z1, z2, z3, z4, z5]) rfl ⟨A', c', rfl, Bytes.own hO, hR⟩
end Go.Proofs.Ythepndimhiieiaa

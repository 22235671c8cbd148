/- train.Open, train.Close: the walks. -/
import Derived.Test.YthepndimhiieiaaTrainA
import Derived.Test.YthepndimhiieiaaElsIn
import Derived.Deep.DeepCutAuto
namespace Go.Proofs.Ythepndimhiieiaa
open Go.RowKit
theorem Ext.put4 {w w1 : World} {g : Nat} {a b c d : Value} (hE : Ext w w1) (hg : w.heap.size ≤ g) : Ext w ((((w1.setCell ⟨g, 0, none⟩ a).setCell ⟨g, 1, none⟩ b).setCell ⟨g, 2, none⟩ c).setCell ⟨g, 3, none⟩ d) :=
  (((hE.setCell (p := ⟨g, 0, none⟩) hg a).setCell (p := ⟨g, 1, none⟩) hg b).setCell (p := ⟨g, 2, none⟩) hg c).setCell (p := ⟨g, 3, none⟩) hg d
theorem Blk.put4 {w : World} {g : Nat} {t : TypeId} {p q r s a b c d : Value} (h : Blk w g t #[p, q, r, s]) : Blk ((((w.setCell ⟨g, 0, none⟩ a).setCell ⟨g, 1, none⟩ b).setCell ⟨g, 2, none⟩ c).setCell ⟨g, 3, none⟩ d) g t #[a, b, c, d] := by
  have := (((h.set_ 0 a).set_ 1 b).set_ 2 c).set_ 3 d
  simpa only [List.setIfInBounds_toArray, List.set_cons_zero, List.set_cons_succ] using this
theorem Blk.far4 {w : World} {g g' : Nat} {t : TypeId} {cs : Array Value} {a b c d : Value} (h : Blk w g' t cs) (hg : g' ≠ g) : Blk ((((w.setCell ⟨g, 0, none⟩ a).setCell ⟨g, 1, none⟩ b).setCell ⟨g, 2, none⟩ c).setCell ⟨g, 3, none⟩ d) g' t cs :=
  (((h.far (p := ⟨g, 0, none⟩) hg a).far (p := ⟨g, 1, none⟩) hg b).far (p := ⟨g, 2, none⟩) hg c).far (p := ⟨g, 3, none⟩) hg d
theorem own_lo {w : World} {base : Nat} {e : TypeId} {size n : Nat} {v : Value} {xs : List Value} (h : w.ownsRow base e size v n xs) {q : Nat} (hq : q < base) : v.ownBlock ≠ some q := by
  rcases h.2 with ⟨rfl, _⟩ | ⟨g, cap, cur, rfl, hb, _⟩
  · simp [Value.ownBlock]
  · simp [Value.ownBlock]; omega
theorem own_put4 {w : World} {g : Nat} {a b c d : Value} {base : Nat} {e : TypeId} {size n : Nat} {v : Value} {xs : List Value} (h : w.ownsRow base e size v n xs) (hg : g < base) : ((((w.setCell ⟨g, 0, none⟩ a).setCell ⟨g, 1, none⟩ b).setCell ⟨g, 2, none⟩ c).setCell ⟨g, 3, none⟩ d).ownsRow base e size v n xs :=
  own_set (own_set (own_set (own_set h (p := ⟨g, 0, none⟩) (own_lo h hg) a) (p := ⟨g, 1, none⟩) (own_lo h hg) b) (p := ⟨g, 2, none⟩) (own_lo h hg) c) (p := ⟨g, 3, none⟩) (own_lo h hg) d
theorem clone_B (B : Nat) (A : Option Addr) (n c : Nat) (l : List UInt8) (w : World) (h : Bytes w A n c l) (hn : n ≤ 1000000) (hB : B ≤ w.heap.size) :
    Calls Try.prog 71 #[.slice A n c] w fun e w' => ∃ A' c', e = .returned (.slice A' n c') ∧ w'.ownsRow B 5 1 (.slice A' n c') n (l.map Bv) ∧ Ext w w' := (clone_any A n c l w h (by omega)).mono fun e w' ⟨A', c', he, ho, hE⟩ => ⟨A', c', he, own_more ho hB, hE⟩
set_option maxRecDepth 100000 in
set_option maxHeartbeats 2000000 in
theorem topen_no (A : Option Addr) (n c : Nat) (b : List UInt8) (w : World) (hb : Bytes w A n c b) (h : cE b ≠ 0 ∨ cS b < b.length) : Calls Try.prog 35 #[.slice A n c] w fun e w' => e = .returned (.tuple #[.agg #[.bool false, .int .i64 0, .int .i64 0, .int .i64 0], .slice none 0 0, .int .i64 0, .int .i64 (if cE b ≠ 0 then cE b else 4)]) ∧ Ext w w' := by
  have hlen := hb.len
  have S := hide (fun W h => cread_any A n c b W h)
  obtain ⟨E, hE⟩ : ∃ E, cE b = E := ⟨_, rfl⟩
  obtain ⟨P, hP⟩ : ∃ E, cP b = E := ⟨_, rfl⟩
  obtain ⟨C, hC⟩ : ∃ E, cC b = E := ⟨_, rfl⟩
  obtain ⟨T, hT⟩ : ∃ E, cT b = E := ⟨_, rfl⟩
  obtain ⟨Z, hZ⟩ : ∃ E, cS b = E := ⟨_, rfl⟩
  rw [hE, hP, hC, hT, hZ] at S
  rw [hE, hZ, hlen] at h
  rw [hE]
  clear hE hP hC hT hZ hlen
  obtain ⟨R, hR⟩ : ∃ R, (if E ≠ 0 then E else 4) = R := ⟨_, rfl⟩
  have hcase : ((E == 0) = false ∧ (E != 0) = true ∧ R = E) ∨ (E = 0 ∧ (Z : Int) < (n : Int) ∧ R = 4) := by
    by_cases h0 : E = 0
    · refine .inr ⟨h0, by omega, by rw [← hR, if_neg (by omega)]⟩
    · exact .inl ⟨beq_eq_false_iff_ne.2 h0, by simp [h0], by rw [← hR, if_pos h0]⟩
  rw [hR]
  clear h hR
  have hbz := Blk.new w 62 #[.bool false, .int .i64 0, .int .i64 0, .int .i64 0]
  have hE0 := (Ext.refl w).alloc (.cells #[.bool false, .int .i64 0, .int .i64 0, .int .i64 0] 62)
  rcases hcase with ⟨q0, q1, rfl⟩ | ⟨rfl, q0, rfl⟩
  all_goals
    go_enter Try.func35, Try.ntmps35
    go_wp2_with fail
    refine (S.out _ (hb.alloc _)).mono ?_
    rintro e w1 ⟨rfl, hE⟩
    replace hbz := (hbz.below hE (by simp)).alloc (.cells #[.bool P, .int .i64 (C : Int), .int .i64 (T : Int), .int .i64 (Z : Int)] 62)
    have hE1 := (hE0.trans hE).alloc (.cells #[.bool P, .int .i64 (C : Int), .int .i64 (T : Int), .int .i64 (Z : Int)] 62)
    obtain ⟨⟨u0, u1, u2, u3⟩, ⟨v0, v1, v2, v3⟩, hlt⟩ := hbz.four
    go_wp2_with fail
    have hz2 := Blk.put4 (a := .bool false) (b := .int .i64 0) (c := .int .i64 0) (d := .int .i64 0) hbz
    obtain ⟨⟨z0, z1, z2, z3⟩, _, _⟩ := hz2.four
    exact bodyPost_ret (v := .tuple #[.agg #[.bool false, .int .i64 0, .int .i64 0, .int .i64 0], .slice none 0 0, .int .i64 0, .int .i64 _]) (by simp [results, Try.results35, go_sem, z0, z1, z2, z3]) rfl ⟨rfl, Ext.put4 hE1 (Nat.le_refl _)⟩
set_option maxRecDepth 100000 in
set_option maxHeartbeats 2000000 in
theorem topen_bad (A : Option Addr) (n c : Nat) (b : List UInt8) (w : World) (hb : Bytes w A n c b) (h0 : cE b = 0) (h1 : ¬ cS b < b.length) (E : Int) (h2 : trE (cP b) (b.drop 4) = E) (hE : E ≠ 0) : Calls Try.prog 35 #[.slice A n c] w fun e w' => e = .returned (.tuple #[.agg #[.bool false, .int .i64 0, .int .i64 0, .int .i64 0], .slice none 0 0, .int .i64 0, .int .i64 E]) ∧ Ext w w' := by
  have hlen := hb.len
  have h4 := (cBack h0).2.2.2
  obtain ⟨g, o, rfl, hg⟩ := hb.plain (by omega)
  have S := hide (fun W h => cread_any (some ⟨g, o, none⟩) n c b W h)
  obtain ⟨P, hP⟩ : ∃ E, cP b = E := ⟨_, rfl⟩
  obtain ⟨C, hC⟩ : ∃ E, cC b = E := ⟨_, rfl⟩
  obtain ⟨T, hT⟩ : ∃ E, cT b = E := ⟨_, rfl⟩
  obtain ⟨Z, hZ⟩ : ∃ E, cS b = E := ⟨_, rfl⟩
  rw [h0, hP, hC, hT, hZ] at S
  rw [hZ, hlen] at h1
  rw [hP] at h2
  have S2 := hide (fun W A n c h => trailer_any P (C : Int) (T : Int) (Z : Int) A n c (b.drop 4) W h (trN P (b.drop 4)) E rfl h2)
  have q0 : ¬ (Z : Int) < (n : Int) := by omega
  have hnc := hb.le
  have hcm := hb.reach
  have n4 : (4 : Int) ≤ (n : Int) := by omega
  have hEb : (E != 0) = true := by simp [hE]
  obtain ⟨V, hV⟩ : ∃ V, trN P (b.drop 4) = V := ⟨_, rfl⟩
  rw [hV] at S2
  have hd : Bytes w (if c = 4 then (some ⟨g, o, none⟩ : Option Addr) else some ⟨g, o + 4, none⟩) (n - 4) (c - 4) (b.drop 4) := by
    have := hb.subIf (lo := 4) (hi := n) (by omega) (by omega)
    simp only [Option.map_some, add_base] at this
    rwa [List.take_of_length_le (by rw [List.length_drop]; omega)] at this
  obtain ⟨o', ho'⟩ : ∃ o', (if c = 4 then (some ⟨g, o, none⟩ : Option Addr) else some ⟨g, o + 4, none⟩) = some ⟨g, o', none⟩ := by split <;> exact ⟨_, rfl⟩
  rw [ho'] at hd
  clear h0 hP hC hT hZ h1 h2 hlen hV hE
  have hbz := Blk.new w 62 #[.bool false, .int .i64 0, .int .i64 0, .int .i64 0]
  have hE0 := (Ext.refl w).alloc (.cells #[.bool false, .int .i64 0, .int .i64 0, .int .i64 0] 62)
  go_enter Try.func35, Try.ntmps35
  go_wp2_with fail
  refine (S.out _ (hb.alloc _)).mono ?_
  rintro e w1 ⟨rfl, hE⟩
  have hbc := Blk.new w1 62 #[.bool P, .int .i64 (C : Int), .int .i64 (T : Int), .int .i64 (Z : Int)]
  replace hbz := (hbz.below hE (by simp)).alloc (.cells #[.bool P, .int .i64 (C : Int), .int .i64 (T : Int), .int .i64 (Z : Int)] 62)
  have hE1 := (hE0.trans hE).alloc (.cells #[.bool P, .int .i64 (C : Int), .int .i64 (T : Int), .int .i64 (Z : Int)] 62)
  obtain ⟨gc, hgc⟩ : ∃ g, w1.heap.size = g := ⟨_, rfl⟩
  go_upto_region 6 with fail
  rw [hgc] at hbc
  generalize hgw : w1.alloc (.cells #[.bool P, .int .i64 (C : Int), .int .i64 (T : Int), .int .i64 (Z : Int)] 62) = w2 at *
  clear hgw hgc hE
  replace hd := hd.ext hE1
  refine regE_start (by kernel_rfl) ?_
  have hR := (Ext.refl w2).drew
  generalize hgw : (w2).drew = wr0 at *
  clear hgw
  refine regE_take (i := 0) (v := ?_) rfl (by kernel_rfl) (by kernel_rfl) (by kernel_rfl) (fun _ _ _ h => h) (by rfl) ?_ ?_
  rotate_left
  · intro W hW; obtain ⟨⟨u0, u1, u2, u3⟩, _, _⟩ := (hbc.below hW hbc.lt).four; go_simp; try with_reducible rfl
  simp only [Act.put, List.setIfInBounds_toArray, List.set_cons_zero, List.set_cons_succ]
  refine regE_take (i := 1) (v := ?_) rfl (by kernel_rfl) (by kernel_rfl) (by kernel_rfl) (fun _ _ _ h => h) (by rfl) ?_ ?_
  rotate_left
  · intro W hW; go_simp; try with_reducible rfl
  simp only [Act.put, List.setIfInBounds_toArray, List.set_cons_zero, List.set_cons_succ]
  refine regE_take (i := 2) (v := ?_) rfl (by kernel_rfl) (by kernel_rfl) (by kernel_rfl) (fun _ _ _ h => h) (by rfl) ?_ ?_
  rotate_left
  · intro W hW; go_simp; try with_reducible rfl
  simp only [Act.put, List.setIfInBounds_toArray, List.set_cons_zero, List.set_cons_succ]
  refine regE_do (i := 3) rfl (by kernel_rfl) (fun K hK => ?_)
  rw [if_pos (by rfl)]
  go_simp
  refine (S2.out _ _ _ _ (hd.ext hR)).mono ?_
  rintro e wr1 ⟨rfl, hXX⟩
  refine hK.out _ _ (hR.trans hXX) ?_
  clear hK K
  replace hR := hR.trans hXX
  clear hXX
  try simp only [Act.put, List.setIfInBounds_toArray, List.set_cons_zero, List.set_cons_succ]
  refine regE_take (i := 4) (v := ?_) rfl (by kernel_rfl) (by kernel_rfl) (by kernel_rfl) (fun _ _ _ h => h) (by rfl) ?_ ?_
  rotate_left
  · intro W hW; go_simp; try with_reducible rfl
  simp only [Act.put, List.setIfInBounds_toArray, List.set_cons_zero, List.set_cons_succ]
  refine regE_take (i := 5) (v := ?_) rfl (by kernel_rfl) (by kernel_rfl) (by kernel_rfl) (fun _ _ _ h => h) (by rfl) ?_ ?_
  rotate_left
  · intro W hW; go_simp; try with_reducible rfl
  simp only [Act.put, List.setIfInBounds_toArray, List.set_cons_zero, List.set_cons_succ]
  refine regE_take (i := 6) (v := ?_) rfl (by kernel_rfl) (by kernel_rfl) (by kernel_rfl) (fun _ _ _ h => h) (by rfl) ?_ ?_
  rotate_left
  · intro W hW; go_simp; try with_reducible rfl
  simp only [Act.put, List.setIfInBounds_toArray, List.set_cons_zero, List.set_cons_succ]
  refine regE_take (i := 7) (v := ?_) rfl (by kernel_rfl) (by kernel_rfl) (by kernel_rfl) (fun _ _ _ h => h) (by rfl) ?_ ?_
  rotate_left
  · intro W hW; go_simp; try with_reducible rfl
  simp only [Act.put, List.setIfInBounds_toArray, List.set_cons_zero, List.set_cons_succ]
  refine regE_take (i := 8) (v := ?_) rfl (by kernel_rfl) (by kernel_rfl) (by kernel_rfl) (fun _ _ _ h => h) (by rfl) ?_ ?_
  rotate_left
  · intro W hW; go_simp; try with_reducible rfl
  simp only [Act.put, List.setIfInBounds_toArray, List.set_cons_zero, List.set_cons_succ]
  refine regE_done (by kernel_rfl) ?_
  replace hbz := hbz.below hR hbz.lt
  replace hE1 := hE1.trans hR
  obtain ⟨⟨u0, u1, u2, u3⟩, ⟨v0, v1, v2, v3⟩, hlt⟩ := hbz.four
  go_wp2_with fail
  have hz2 := Blk.put4 (a := .bool false) (b := .int .i64 0) (c := .int .i64 0) (d := .int .i64 0) hbz
  obtain ⟨⟨z0, z1, z2, z3⟩, _, _⟩ := hz2.four
  exact bodyPost_ret (v := .tuple #[.agg #[.bool false, .int .i64 0, .int .i64 0, .int .i64 0], .slice none 0 0, .int .i64 0, .int .i64 _]) (by simp [results, Try.results35, go_sem, z0, z1, z2, z3]) rfl ⟨rfl, Ext.put4 hE1 (Nat.le_refl _)⟩
set_option maxRecDepth 100000 in
set_option maxHeartbeats 2000000 in
theorem topen_ok (A : Option Addr) (n c : Nat) (b : List UInt8) (w : World) (hb : Bytes w A n c b) (hn : n ≤ 1000000) (h0 : cE b = 0) (h1 : ¬ cS b < b.length) (V : Nat) (h2 : trE (cP b) (b.drop 4) = 0) (hV : trN (cP b) (b.drop 4) = V) (hV4 : V + 4 ≤ n) (y : List UInt8) (hy : (b.drop 4).take (n - V - 4) = y) : Calls Try.prog 35 #[.slice A n c] w fun e w' => ∃ A' c', e = .returned (.tuple #[.agg #[.bool (cP b), .int .i64 (cC b), .int .i64 (cT b), .int .i64 (cS b)], .slice A' (n - V - 4) c', .int .i64 (V : Int), .int .i64 0]) ∧ Bytes w' A' (n - V - 4) c' y ∧ Ext w w' := by
  have hlen := hb.len
  obtain ⟨g, o, rfl, hg⟩ := hb.plain (by omega)
  have S := hide (fun W h => cread_any (some ⟨g, o, none⟩) n c b W h)
  obtain ⟨P, hP⟩ : ∃ E, cP b = E := ⟨_, rfl⟩
  obtain ⟨C, hC⟩ : ∃ E, cC b = E := ⟨_, rfl⟩
  obtain ⟨T, hT⟩ : ∃ E, cT b = E := ⟨_, rfl⟩
  obtain ⟨Z, hZ⟩ : ∃ E, cS b = E := ⟨_, rfl⟩
  rw [h0, hP, hC, hT, hZ] at S
  rw [hZ, hlen] at h1
  rw [hP] at h2 hV
  rw [hP, hC, hT, hZ]
  have S2 := hide (fun W A n c h => trailer_any P (C : Int) (T : Int) (Z : Int) A n c (b.drop 4) W h V 0 hV h2)
  have q0 : ¬ (Z : Int) < (n : Int) := by omega
  have hnc := hb.le
  have hcm := hb.reach
  have n4 : (4 : Int) ≤ (n : Int) := by omega
  have hd : Bytes w (if c = 4 then (some ⟨g, o, none⟩ : Option Addr) else some ⟨g, o + 4, none⟩) (n - 4) (c - 4) (b.drop 4) := by
    have := hb.subIf (lo := 4) (hi := n) (by omega) (by omega)
    simp only [Option.map_some, add_base] at this
    rwa [List.take_of_length_le (by rw [List.length_drop]; omega)] at this
  have hd2 : Bytes w (if c = 4 then (some ⟨g, o, none⟩ : Option Addr) else some ⟨g, o + 4, none⟩) (n - V - 4) (c - 4) y := by
    have := hb.subIf (lo := 4) (hi := n - V) (by omega) (by omega)
    simp only [Option.map_some, add_base] at this
    rwa [hy] at this
  obtain ⟨m, hm⟩ : ∃ m, n - V = m := ⟨_, rfl⟩
  rw [hm] at hd2 ⊢
  have j1 : IntKind.i64.wrap (m : Int) = (m : Int) := IntWalk.i64_in _ (by omega)
  have j3 : (4 : Int) ≤ (m : Int) := by omega
  have j4 : (m : Int) ≤ (c : Int) := by omega
  have m4 : 4 ≤ m := by omega
  have mn : m ≤ n := by omega
  have j2 : (n : Int) - (V : Int) = (m : Int) := by omega
  obtain ⟨o', ho'⟩ : ∃ o', (if c = 4 then (some ⟨g, o, none⟩ : Option Addr) else some ⟨g, o + 4, none⟩) = some ⟨g, o', none⟩ := by split <;> exact ⟨_, rfl⟩
  rw [ho'] at hd hd2
  clear h0 hP hC hT hZ h1 h2 hlen hV hy hV4 hm
  have hbz := Blk.new w 62 #[.bool false, .int .i64 0, .int .i64 0, .int .i64 0]
  have hE0 := (Ext.refl w).alloc (.cells #[.bool false, .int .i64 0, .int .i64 0, .int .i64 0] 62)
  have J := hide (And.intro j1 j2)
  clear j1 j2
  go_enter Try.func35, Try.ntmps35
  go_wp2_with fail
  refine (S.out _ (hb.alloc _)).mono ?_
  rintro e w1 ⟨rfl, hE⟩
  have hbc := Blk.new w1 62 #[.bool P, .int .i64 (C : Int), .int .i64 (T : Int), .int .i64 (Z : Int)]
  replace hbz := (hbz.below hE (by simp)).alloc (.cells #[.bool P, .int .i64 (C : Int), .int .i64 (T : Int), .int .i64 (Z : Int)] 62)
  have hE1 := (hE0.trans hE).alloc (.cells #[.bool P, .int .i64 (C : Int), .int .i64 (T : Int), .int .i64 (Z : Int)] 62)
  obtain ⟨gc, hgc⟩ : ∃ g, w1.heap.size = g := ⟨_, rfl⟩
  have hgc0 : w.heap.size ≠ gc := by have := hE.size; simp at this; omega
  go_upto_region 6 with fail
  rw [hgc] at hbc
  generalize hgw : w1.alloc (.cells #[.bool P, .int .i64 (C : Int), .int .i64 (T : Int), .int .i64 (Z : Int)] 62) = w2 at *
  clear hgw hgc hE
  replace hd := hd.ext hE1
  refine regE_start (by kernel_rfl) ?_
  have hR := (Ext.refl w2).drew
  generalize hgw : (w2).drew = wr0 at *
  clear hgw
  refine regE_take (i := 0) (v := ?_) rfl (by kernel_rfl) (by kernel_rfl) (by kernel_rfl) (fun _ _ _ h => h) (by rfl) ?_ ?_
  rotate_left
  · intro W hW; obtain ⟨⟨u0, u1, u2, u3⟩, _, _⟩ := (hbc.below hW hbc.lt).four; go_simp; try with_reducible rfl
  simp only [Act.put, List.setIfInBounds_toArray, List.set_cons_zero, List.set_cons_succ]
  refine regE_take (i := 1) (v := ?_) rfl (by kernel_rfl) (by kernel_rfl) (by kernel_rfl) (fun _ _ _ h => h) (by rfl) ?_ ?_
  rotate_left
  · intro W hW; go_simp; try with_reducible rfl
  simp only [Act.put, List.setIfInBounds_toArray, List.set_cons_zero, List.set_cons_succ]
  refine regE_take (i := 2) (v := ?_) rfl (by kernel_rfl) (by kernel_rfl) (by kernel_rfl) (fun _ _ _ h => h) (by rfl) ?_ ?_
  rotate_left
  · intro W hW; go_simp; try with_reducible rfl
  simp only [Act.put, List.setIfInBounds_toArray, List.set_cons_zero, List.set_cons_succ]
  refine regE_do (i := 3) rfl (by kernel_rfl) (fun K hK => ?_)
  rw [if_pos (by rfl)]
  go_simp
  refine (S2.out _ _ _ _ (hd.ext hR)).mono ?_
  rintro e wr1 ⟨rfl, hXX⟩
  refine hK.out _ _ (hR.trans hXX) ?_
  clear hK K
  replace hR := hR.trans hXX
  clear hXX
  try simp only [Act.put, List.setIfInBounds_toArray, List.set_cons_zero, List.set_cons_succ]
  refine regE_take (i := 4) (v := ?_) rfl (by kernel_rfl) (by kernel_rfl) (by kernel_rfl) (fun _ _ _ h => h) (by rfl) ?_ ?_
  rotate_left
  · intro W hW; go_simp; try with_reducible rfl
  simp only [Act.put, List.setIfInBounds_toArray, List.set_cons_zero, List.set_cons_succ]
  refine regE_take (i := 5) (v := ?_) rfl (by kernel_rfl) (by kernel_rfl) (by kernel_rfl) (fun _ _ _ h => h) (by rfl) ?_ ?_
  rotate_left
  · intro W hW; go_simp; try with_reducible rfl
  simp only [Act.put, List.setIfInBounds_toArray, List.set_cons_zero, List.set_cons_succ]
  refine regE_take (i := 6) (v := ?_) rfl (by kernel_rfl) (by kernel_rfl) (by kernel_rfl) (fun _ _ _ h => h) (by rfl) ?_ ?_
  rotate_left
  · intro W hW; go_simp; try with_reducible rfl
  simp only [Act.put, List.setIfInBounds_toArray, List.set_cons_zero, List.set_cons_succ]
  refine regE_take (i := 7) (v := ?_) rfl (by kernel_rfl) (by kernel_rfl) (by kernel_rfl) (fun _ _ _ h => h) (by rfl) ?_ ?_
  rotate_left
  · intro W hW; go_simp; try with_reducible rfl
  simp only [Act.put, List.setIfInBounds_toArray, List.set_cons_zero, List.set_cons_succ]
  refine regE_take (i := 8) (v := ?_) rfl (by kernel_rfl) (by kernel_rfl) (by kernel_rfl) (fun _ _ _ h => h) (by rfl) ?_ ?_
  rotate_left
  · intro W hW; go_simp; try with_reducible rfl
  simp only [Act.put, List.setIfInBounds_toArray, List.set_cons_zero, List.set_cons_succ]
  refine regE_done (by kernel_rfl) ?_
  replace hbz := hbz.below hR hbz.lt
  replace hbc := hbc.below hR hbc.lt
  replace hE1 := hE1.trans hR
  go_upto_region 9 with fail
  generalize wr1 = w3 at *
  clear hR hd
  obtain ⟨j1, j2⟩ := J.out
  refine regE_start_at (hE1) (by kernel_rfl) ?_
  have hR := (hE1).drew
  replace hbz := hbz.drew
  replace hbc := hbc.drew
  generalize hgw : (w3).drew = wr0 at *
  clear hgw
  refine regE_take (i := 1) (v := ?_) rfl (by kernel_rfl) (by kernel_rfl) (by kernel_rfl) (fun _ _ _ h => h) (by rfl) ?_ ?_
  rotate_left
  · intro W hW; go_simp; try with_reducible rfl
  simp only [Act.put, List.setIfInBounds_toArray, List.set_cons_zero, List.set_cons_succ]
  refine regE_take (i := 2) (v := ?_) rfl (by kernel_rfl) (by kernel_rfl) (by kernel_rfl) (fun _ _ _ h => h) (by rfl) ?_ ?_
  rotate_left
  · intro W hW; go_simp; try with_reducible rfl
  simp only [Act.put, List.setIfInBounds_toArray, List.set_cons_zero, List.set_cons_succ]
  refine regE_take (i := 3) (v := ?_) rfl (by kernel_rfl) (by kernel_rfl) (by kernel_rfl) (fun _ _ _ h => h) (by rfl) ?_ ?_
  rotate_left
  · intro W hW; go_simp; try with_reducible rfl
  simp only [Act.put, List.setIfInBounds_toArray, List.set_cons_zero, List.set_cons_succ]
  refine regE_take (i := 4) (v := ?_) rfl (by kernel_rfl) (by kernel_rfl) (by kernel_rfl) (fun _ _ _ h => h) (by rfl) ?_ ?_
  rotate_left
  · intro W hW; go_simp; try with_reducible rfl
  simp only [Act.put, List.setIfInBounds_toArray, List.set_cons_zero, List.set_cons_succ]
  refine regE_take (i := 5) (v := ?_) rfl (by kernel_rfl) (by kernel_rfl) (by kernel_rfl) (fun _ _ _ h => h) (by rfl) ?_ ?_
  rotate_left
  · intro W hW; go_simp; try with_reducible rfl
  simp only [Act.put, List.setIfInBounds_toArray, List.set_cons_zero, List.set_cons_succ]
  refine regE_take (i := 6) (v := ?_) rfl (by kernel_rfl) (by kernel_rfl) (by kernel_rfl) (fun _ _ _ h => h) (by rfl) ?_ ?_
  rotate_left
  · intro W hW; go_simp; try with_reducible rfl
  simp only [Act.put, List.setIfInBounds_toArray, List.set_cons_zero, List.set_cons_succ]
  refine regE_take (i := 8) (v := ?_) rfl (by kernel_rfl) (by kernel_rfl) (by kernel_rfl) (fun _ _ _ h => h) (by rfl) ?_ ?_
  rotate_left
  · intro W hW; go_simp; try with_reducible rfl
  simp only [Act.put, List.setIfInBounds_toArray, List.set_cons_zero, List.set_cons_succ]
  refine regE_do2 (i0 := 0) (i1 := 7) (by kernel_rfl) rfl rfl (fun K hK => ?_) (fun K hK => ?_)
  · rw [if_pos (by rfl)]
    obtain ⟨⟨u0, u1, u2, u3⟩, _, _⟩ := hbc.four
    go_simp
    refine hK.out _ _ hR ?_
    clear hK K
    try simp only [Act.put, List.setIfInBounds_toArray, List.set_cons_zero, List.set_cons_succ]
    refine regE_do (i := 7) rfl (by kernel_rfl) (fun K hK => ?_)
    rw [if_pos (by rfl)]
    go_simp
    refine (clone_B (w.heap.size + 1) _ _ _ _ _ (hd2.ext hR) (by omega) hbz.lt).mono ?_
    rintro e wr1 ⟨A', c', rfl, hO, hXX⟩
    refine hK.out _ _ (hR.trans hXX) ?_
    clear hK K
    replace hR := hR.trans hXX
    replace hbz := hbz.below hXX hbz.lt
    replace hbc := hbc.below hXX hbc.lt
    clear hXX
    try simp only [Act.put, List.setIfInBounds_toArray, List.set_cons_zero, List.set_cons_succ]
    refine regE_do (i := 9) rfl (by kernel_rfl) (fun K hK => ?_)
    rw [if_pos (by rfl)]
    obtain ⟨⟨z0, z1, z2, z3⟩, ⟨v0, v1, v2, v3⟩, _⟩ := hbz.four
    go_simp
    refine hK.out _ _ (Ext.put4 hR (Nat.le_refl _)) ?_
    clear hK K z0 z1 z2 z3 v0 v1 v2 v3
    replace hbz : Blk ((((wr1.setCell ⟨w.heap.size, 0, none⟩ (.bool P)).setCell ⟨w.heap.size, 0 + 1, none⟩ (.int .i64 (C : Int))).setCell ⟨w.heap.size, 0 + 2, none⟩ (.int .i64 (T : Int))).setCell ⟨w.heap.size, 0 + 3, none⟩ (.int .i64 (Z : Int))) w.heap.size _ _ := Blk.put4 hbz
    replace hO : ((((wr1.setCell ⟨w.heap.size, 0, none⟩ (.bool P)).setCell ⟨w.heap.size, 0 + 1, none⟩ (.int .i64 (C : Int))).setCell ⟨w.heap.size, 0 + 2, none⟩ (.int .i64 (T : Int))).setCell ⟨w.heap.size, 0 + 3, none⟩ (.int .i64 (Z : Int))).ownsRow _ _ _ _ _ _ := own_put4 hO (by omega)
    replace hR : Ext w ((((wr1.setCell ⟨w.heap.size, 0, none⟩ (.bool P)).setCell ⟨w.heap.size, 0 + 1, none⟩ (.int .i64 (C : Int))).setCell ⟨w.heap.size, 0 + 2, none⟩ (.int .i64 (T : Int))).setCell ⟨w.heap.size, 0 + 3, none⟩ (.int .i64 (Z : Int))) := Ext.put4 hR (Nat.le_refl _)
    generalize hgw : ((((wr1.setCell ⟨w.heap.size, 0, none⟩ (.bool P)).setCell ⟨w.heap.size, 0 + 1, none⟩ (.int .i64 (C : Int))).setCell ⟨w.heap.size, 0 + 2, none⟩ (.int .i64 (T : Int))).setCell ⟨w.heap.size, 0 + 3, none⟩ (.int .i64 (Z : Int))) = wr2 at *
    clear hgw
    try simp only [Act.put, List.setIfInBounds_toArray, List.set_cons_zero, List.set_cons_succ]
    refine regE_take (i := 10) (v := ?_) rfl (by kernel_rfl) (by kernel_rfl) (by kernel_rfl) (fun _ _ _ h => h) (by rfl) ?_ ?_
    rotate_left
    · intro W hW; go_simp; try with_reducible rfl
    simp only [Act.put, List.setIfInBounds_toArray, List.set_cons_zero, List.set_cons_succ]
    refine regE_take (i := 11) (v := ?_) rfl (by kernel_rfl) (by kernel_rfl) (by kernel_rfl) (fun _ _ _ h => h) (by rfl) ?_ ?_
    rotate_left
    · intro W hW; go_simp; try with_reducible rfl
    simp only [Act.put, List.setIfInBounds_toArray, List.set_cons_zero, List.set_cons_succ]
    refine regE_take (i := 12) (v := ?_) rfl (by kernel_rfl) (by kernel_rfl) (by kernel_rfl) (fun _ _ _ h => h) (by rfl) ?_ ?_
    rotate_left
    · intro W hW; go_simp; try with_reducible rfl
    simp only [Act.put, List.setIfInBounds_toArray, List.set_cons_zero, List.set_cons_succ]
    refine regE_done (by kernel_rfl) ?_
    go_wp2_with fail
    obtain ⟨⟨z0, z1, z2, z3⟩, _, _⟩ := hbz.four
    exact bodyPost_ret (v := .tuple #[.agg #[.bool P, .int .i64 (C : Int), .int .i64 (T : Int), .int .i64 (Z : Int)], .slice A' (m - 4) c', .int .i64 (V : Int), .int .i64 0]) (by simp [results, Try.results35, go_sem, z0, z1, z2, z3]) rfl ⟨A', c', rfl, Bytes.own hO, hR⟩
  · rw [if_pos (by rfl)]
    go_simp
    refine (clone_B (w.heap.size + 1) _ _ _ _ _ (hd2.ext hR) (by omega) hbz.lt).mono ?_
    rintro e wr1 ⟨A', c', rfl, hO, hXX⟩
    refine hK.out _ _ (hR.trans hXX) ?_
    clear hK K
    replace hR := hR.trans hXX
    replace hbz := hbz.below hXX hbz.lt
    replace hbc := hbc.below hXX hbc.lt
    clear hXX
    try simp only [Act.put, List.setIfInBounds_toArray, List.set_cons_zero, List.set_cons_succ]
    refine regE_do (i := 0) rfl (by kernel_rfl) (fun K hK => ?_)
    rw [if_pos (by rfl)]
    obtain ⟨⟨u0, u1, u2, u3⟩, _, _⟩ := hbc.four
    go_simp
    refine hK.out _ _ hR ?_
    clear hK K
    try simp only [Act.put, List.setIfInBounds_toArray, List.set_cons_zero, List.set_cons_succ]
    refine regE_do (i := 9) rfl (by kernel_rfl) (fun K hK => ?_)
    rw [if_pos (by rfl)]
    obtain ⟨⟨z0, z1, z2, z3⟩, ⟨v0, v1, v2, v3⟩, _⟩ := hbz.four
    go_simp
    refine hK.out _ _ (Ext.put4 hR (Nat.le_refl _)) ?_
    clear hK K z0 z1 z2 z3 v0 v1 v2 v3
    replace hbz : Blk ((((wr1.setCell ⟨w.heap.size, 0, none⟩ (.bool P)).setCell ⟨w.heap.size, 0 + 1, none⟩ (.int .i64 (C : Int))).setCell ⟨w.heap.size, 0 + 2, none⟩ (.int .i64 (T : Int))).setCell ⟨w.heap.size, 0 + 3, none⟩ (.int .i64 (Z : Int))) w.heap.size _ _ := Blk.put4 hbz
    replace hO : ((((wr1.setCell ⟨w.heap.size, 0, none⟩ (.bool P)).setCell ⟨w.heap.size, 0 + 1, none⟩ (.int .i64 (C : Int))).setCell ⟨w.heap.size, 0 + 2, none⟩ (.int .i64 (T : Int))).setCell ⟨w.heap.size, 0 + 3, none⟩ (.int .i64 (Z : Int))).ownsRow _ _ _ _ _ _ := own_put4 hO (by omega)
    replace hR : Ext w ((((wr1.setCell ⟨w.heap.size, 0, none⟩ (.bool P)).setCell ⟨w.heap.size, 0 + 1, none⟩ (.int .i64 (C : Int))).setCell ⟨w.heap.size, 0 + 2, none⟩ (.int .i64 (T : Int))).setCell ⟨w.heap.size, 0 + 3, none⟩ (.int .i64 (Z : Int))) := Ext.put4 hR (Nat.le_refl _)
    generalize hgw : ((((wr1.setCell ⟨w.heap.size, 0, none⟩ (.bool P)).setCell ⟨w.heap.size, 0 + 1, none⟩ (.int .i64 (C : Int))).setCell ⟨w.heap.size, 0 + 2, none⟩ (.int .i64 (T : Int))).setCell ⟨w.heap.size, 0 + 3, none⟩ (.int .i64 (Z : Int))) = wr2 at *
    clear hgw
    try simp only [Act.put, List.setIfInBounds_toArray, List.set_cons_zero, List.set_cons_succ]
    refine regE_take (i := 10) (v := ?_) rfl (by kernel_rfl) (by kernel_rfl) (by kernel_rfl) (fun _ _ _ h => h) (by rfl) ?_ ?_
    rotate_left
    · intro W hW; go_simp; try with_reducible rfl
    simp only [Act.put, List.setIfInBounds_toArray, List.set_cons_zero, List.set_cons_succ]
    refine regE_take (i := 11) (v := ?_) rfl (by kernel_rfl) (by kernel_rfl) (by kernel_rfl) (fun _ _ _ h => h) (by rfl) ?_ ?_
    rotate_left
    · intro W hW; go_simp; try with_reducible rfl
    simp only [Act.put, List.setIfInBounds_toArray, List.set_cons_zero, List.set_cons_succ]
    refine regE_take (i := 12) (v := ?_) rfl (by kernel_rfl) (by kernel_rfl) (by kernel_rfl) (fun _ _ _ h => h) (by rfl) ?_ ?_
    rotate_left
    · intro W hW; go_simp; try with_reducible rfl
    simp only [Act.put, List.setIfInBounds_toArray, List.set_cons_zero, List.set_cons_succ]
    refine regE_done (by kernel_rfl) ?_
    go_wp2_with fail
    obtain ⟨⟨z0, z1, z2, z3⟩, _, _⟩ := hbz.four
    exact bodyPost_ret (v := .tuple #[.agg #[.bool P, .int .i64 (C : Int), .int .i64 (T : Int), .int .i64 (Z : Int)], .slice A' (m - 4) c', .int .i64 (V : Int), .int .i64 0]) (by simp [results, Try.results35, go_sem, z0, z1, z2, z3]) rfl ⟨A', c', rfl, Bytes.own hO, hR⟩
end Go.Proofs.Ythepndimhiieiaa

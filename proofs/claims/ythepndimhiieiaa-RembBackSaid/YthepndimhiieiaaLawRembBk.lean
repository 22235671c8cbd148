/- RembBack: the walk. -/
import Derived.Test.YthepndimhiieiaaRembF
import Derived.Deep.DeepCutAuto
namespace Go.Proofs.Ythepndimhiieiaa
open Go.RowKit
theorem read17_B (A : Option Addr) (n c : Nat) (b : List UInt8) (w : World) (hb : Bytes w A n c b) (X M : Nat) (L : List UInt32) (E : Int) (N : Nat) (e1 : rbX b = X) (e2 : rbM b = M) (e3 : rbL b = L) (e4 : rbE b = E) (e5 : L.length = N) : Calls Try.prog 47 #[.slice A n c] w fun e w' =>
    ∃ A' c', e = .returned (.tuple #[.agg #[.int .i64 (X : Int), .int .u32 (M : Int), .slice A' N c'], .int .i64 E]) ∧ Els e32 w' A' N c' L ∧ Ext w w' := by
  subst e1 e2 e3 e4 e5
  exact read17_any A n c b w hb
theorem Els.empty {α : Type} {E : Enc α} {w w' : World} {A : Option Addr} {c : Nat} (h : Els E w A 0 c []) : Els E w' A 0 c [] := ⟨⟨h.1.1, fun h0 => absurd h0 (by omega)⟩, h.2⟩
set_option maxRecDepth 100000 in
set_option maxHeartbeats 4000000 in
theorem law_rembback (x : Int) (m : Nat) (l : List UInt32) (A : Option Addr) (n c : Nat) (x2 : Int) (m2 : Nat) (l2 : List UInt32) (A2 : Option Addr) (n2 c2 : Nat) (A3 : Option Addr) (n3 c3 : Nat) (b : List UInt8) (w : World) (hh : Els e32 w A n c l) (hk : Els e32 w A2 n2 c2 l2) (hb : Bytes w A3 n3 c3 b) :
    Calls Try.prog 13 #[.agg #[.int .i64 x, .int .u32 (m : Int), .slice A n c], .agg #[.int .i64 x2, .int .u32 (m2 : Int), .slice A2 n2 c2], .slice A3 n3 c3] w fun e w' => e = .returned (.bool true) ∧ Ext w w' := by
  have hbx := (Blk.new w 84 #[.int .i64 x, .int .u32 (m : Int), .slice A n c]).alloc (.cells #[.int .i64 x2, .int .u32 (m2 : Int), .slice A2 n2 c2] 84)
  have hbk := Blk.new (w.alloc (.cells #[.int .i64 x, .int .u32 (m : Int), .slice A n c] 84)) 84 #[.int .i64 x2, .int .u32 (m2 : Int), .slice A2 n2 c2]
  rw [World.size_alloc] at hbk
  have hE := ((Ext.refl w).alloc (.cells #[.int .i64 x, .int .u32 (m : Int), .slice A n c] 84)).alloc (.cells #[.int .i64 x2, .int .u32 (m2 : Int), .slice A2 n2 c2] 84)
  replace hh := hh.ext hE
  replace hk := hk.ext hE
  replace hb := hb.ext hE
  by_cases hbig : 999 < n ∨ 999 < n2 ∨ 70000 < n3
  · have d1 : (999 : Int) < (n : Int) ∨ ((999 : Int) < (n2 : Int) ∧ ¬ (999 : Int) < (n : Int)) ∨ ((70000 : Int) < (n3 : Int) ∧ ¬ (999 : Int) < (n : Int) ∧ ¬ (999 : Int) < (n2 : Int)) := by omega
    rcases d1 with d1 | ⟨d1, d2⟩ | ⟨d1, d2, d3⟩
    all_goals
      go_enter Try.func13, Try.ntmps13
      go_wp2_with fail
      refine (awake17 _).mono ?_
      rintro e w1 ⟨rfl, hE2⟩
      replace hbx := hbx.below hE2 hbx.lt
      replace hbk := hbk.below hE2 hbk.lt
      obtain ⟨⟨u0, u1, u2⟩, _, _⟩ := hbx.three
      obtain ⟨⟨v0, v1, v2⟩, _, _⟩ := hbk.three
      go_wp2_with fail
      go_ret
      exact ⟨rfl, hE.trans hE2⟩
  · have d1 : ¬ (70000 : Int) < (n3 : Int) := by omega
    have d2 : ¬ (999 : Int) < (n : Int) := by omega
    have d3 : ¬ (999 : Int) < (n2 : Int) := by omega
    clear hbig
    obtain ⟨r1, hr1⟩ : ∃ r, rbRight x m n = r := ⟨_, rfl⟩
    obtain ⟨r2, hr2⟩ : ∃ r, rbRight x2 m2 n2 = r := ⟨_, rfl⟩
    have S1 := hide (fun W hh => write17_gen x m l A c n W hh r1 hr1)
    have S2 := hide (fun W hk => write17_gen x2 m2 l2 A2 c2 n2 W hk r2 hr2)
    have hln := hh.len
    have hlk := hk.len
    have HR1 := hide (And.intro hr1 hln)
    have HR2 := hide (And.intro hr2 hlk)
    clear hr1 hr2 hln hlk
    go_enter Try.func13, Try.ntmps13
    go_wp2_with fail
    refine (awake17 _).mono ?_
    rintro e w1 ⟨rfl, hE2⟩
    replace hE := hE.trans hE2
    replace hh := hh.ext hE2
    replace hk := hk.ext hE2
    replace hb := hb.ext hE2
    replace hbx := hbx.below hE2 hbx.lt
    replace hbk := hbk.below hE2 hbk.lt
    clear hE2
    obtain ⟨⟨u0, u1, u2⟩, _, _⟩ := hbx.three
    obtain ⟨⟨v0, v1, v2⟩, _, _⟩ := hbk.three
    go_wp2_with fail
    clear u0 u1 u2 v0 v1 v2
    refine (S1.out _ hh).mono ?_
    rintro e w2 ⟨Ax, Nx, cx, y, Ex, rfl, hX, hy1, hn1, hE2⟩
    have HY1 := hide hy1
    have HN1 := hide hn1
    replace hE := hE.trans hE2
    replace hh := hh.ext hE2
    replace hk := hk.ext hE2
    replace hb := hb.ext hE2
    replace hbx := hbx.below hE2 hbx.lt
    replace hbk := hbk.below hE2 hbk.lt
    clear hE2 S1 hy1 hn1
    obtain ⟨⟨v0, v1, v2⟩, _, _⟩ := hbk.three
    go_wp2_with fail
    clear v0 v1 v2
    refine (S2.out _ hk).mono ?_
    rintro e w3 ⟨Ay, Ny, cy, y2, Ey, rfl, hX2, hy2, hn2, hE2⟩
    have HY2 := hide hy2
    have HN2 := hide hn2
    replace hE := hE.trans hE2
    replace hh := hh.ext hE2
    replace hk := hk.ext hE2
    replace hb := hb.ext hE2
    replace hX := hX.ext hE2
    replace hbx := hbx.below hE2 hbx.lt
    replace hbk := hbk.below hE2 hbk.lt
    clear hE2 S2 hy2 hn2
    go_upto_if 45 with (fail)
    go_cut [12] (fun _ wx => Ext w3 wx)
    case first =>
      cases hr : r1
      · obtain ⟨rfl, rfl⟩ := HN1.out hr
        go_wp2_with fail
        go_meet
        case rel => exact Ext.refl _
      · obtain ⟨eN0, rfl, ex0⟩ := HY1.out hr
        obtain ⟨hr1, hln⟩ := HR1.out
        rw [hr] at hr1
        have hd := of_decide_eq_true hr1
        obtain ⟨k, rfl⟩ := Int.eq_ofNat_of_zero_le hd.1
        rw [Int.toNat_natCast] at ex0
        obtain ⟨q0, q1, q2, q3, q4⟩ := rb_back k m l (by rw [hln]; exact hr1)
        rw [← ex0] at q0 q1 q2 q3 q4
        have S7 := hide (fun W A N c hX => read17_B A N c y W hX k m l 0 n q1 q2 q3 q0 hln)
        have S8 := hide (fun W A N c hX => canon17_any A N c y W hX true q4)
        have hinj := fun (k2 : Nat) (h : rbRight (k2 : Int) m2 l2.length = true) => rb_inj k m l k2 m2 l2 (by rw [hln]; exact hr1) h
        rw [← ex0] at hinj
        have HI := hide hinj
        clear q0 q1 q2 q3 q4 hinj hd hr1 hln ex0 eN0 hr HN1 HY1 HR1
        go_wp2_with fail
        refine (S7.out _ _ _ _ hX).mono ?_
        rintro e w6 ⟨A6, c6, rfl, hZ, hE6⟩
        have hbz := Blk.new w6 84 #[.int .i64 (k : Int), .int .u32 (m : Int), .slice A6 n c6]
        have hE7 := hE6.alloc (.cells #[.int .i64 (k : Int), .int .u32 (m : Int), .slice A6 n c6] 84)
        replace hZ := hZ.alloc (.cells #[.int .i64 (k : Int), .int .u32 (m : Int), .slice A6 n c6] 84)
        replace hh := hh.ext hE7
        replace hk := hk.ext hE7
        replace hX := hX.ext hE7
        replace hX2 := hX2.ext hE7
        replace hbx := hbx.below hE7 hbx.lt
        replace hbk := hbk.below hE7 hbk.lt
        clear hE6 S7
        obtain ⟨g11, hg11⟩ : ∃ g, w6.heap.size = g := ⟨_, rfl⟩
        go_upto_region 9 with fail
        rw [hg11] at hbz
        generalize hgw : w6.alloc (.cells #[.int .i64 (k : Int), .int .u32 (m : Int), .slice A6 n c6] 84) = w7 at *
        clear hgw hg11
        cases hr2 : r2
        · obtain ⟨rfl, rfl⟩ := HN2.out hr2
          clear HY2 HN2 hr2 HI HR2
          refine regE_start (by kernel_rfl) ?_
          have hR := (Ext.refl w7).drew
          generalize hgw : (w7).drew = wr0 at *
          clear hgw
          refine regE_take (i := 0) (v := ?_) rfl (by kernel_rfl) (by kernel_rfl) (by kernel_rfl) (fun _ _ _ h => h) (by rfl) ?_ ?_
          rotate_left
          · intro W hW; go_simp; try with_reducible rfl
          simp only [Act.put, List.setIfInBounds_toArray, List.set_cons_zero, List.set_cons_succ]
          refine regE_take (i := 1) (v := ?_) rfl (by kernel_rfl) (by kernel_rfl) (by kernel_rfl) (fun _ _ _ h => h) (by rfl) ?_ ?_
          rotate_left
          · intro W hW; go_simp; try with_reducible rfl
          simp only [Act.put, List.setIfInBounds_toArray, List.set_cons_zero, List.set_cons_succ]
          refine regE_take (i := 2) (v := ?_) rfl (by kernel_rfl) (by kernel_rfl) (by kernel_rfl) (fun _ _ _ h => h) (by rfl) ?_ ?_
          rotate_left
          · intro W hW; go_simp; try with_reducible rfl
          simp only [Act.put, List.setIfInBounds_toArray, List.set_cons_zero, List.set_cons_succ]
          refine regE_take (i := 3) (v := ?_) rfl (by kernel_rfl) (by kernel_rfl) (by kernel_rfl) (fun _ _ _ h => h) (by rfl) ?_ ?_
          rotate_left
          · intro W hW; obtain ⟨⟨u0, u1, u2⟩, _, _⟩ := (hbz.below hW hbz.lt).three; go_simp; try with_reducible rfl
          simp only [Act.put, List.setIfInBounds_toArray, List.set_cons_zero, List.set_cons_succ]
          refine regE_take (i := 4) (v := ?_) rfl (by kernel_rfl) (by kernel_rfl) (by kernel_rfl) (fun _ _ _ h => h) (by rfl) ?_ ?_
          rotate_left
          · intro W hW; obtain ⟨⟨u0, u1, u2⟩, _, _⟩ := (hbx.below hW hbx.lt).three; go_simp; try with_reducible rfl
          simp only [Act.put, List.setIfInBounds_toArray, List.set_cons_zero, List.set_cons_succ]
          refine regE_do (i := 5) rfl (by kernel_rfl) (fun K hK => ?_)
          rw [if_pos (by rfl)]
          go_simp
          refine (same17 (k : Int) m _ _ _ l (k : Int) m _ _ _ l _ (hZ.ext hR) (hh.ext hR) true (by simp)).mono ?_
          rintro e wr1 ⟨rfl, hXX⟩
          refine hK.out _ _ (hR.trans hXX) ?_
          clear hK K
          replace hR := hR.trans hXX
          clear hXX
          try simp only [Act.put, List.setIfInBounds_toArray, List.set_cons_zero, List.set_cons_succ]
          refine regE_take (i := 6) (v := ?_) rfl (by kernel_rfl) (by kernel_rfl) (by kernel_rfl) (fun _ _ _ h => h) (by rfl) ?_ ?_
          rotate_left
          · intro W hW; go_simp; try with_reducible rfl
          simp only [Act.put, List.setIfInBounds_toArray, List.set_cons_zero, List.set_cons_succ]
          refine regE_take (i := 7) (v := ?_) rfl (by kernel_rfl) (by kernel_rfl) (by kernel_rfl) (fun _ _ _ h => h) (by rfl) ?_ ?_
          rotate_left
          · intro W hW; go_simp; try with_reducible rfl
          simp only [Act.put, List.setIfInBounds_toArray, List.set_cons_zero, List.set_cons_succ]
          refine regE_take (i := 8) (v := ?_) rfl (by kernel_rfl) (by kernel_rfl) (by kernel_rfl) (fun _ _ _ h => h) (by rfl) ?_ ?_
          rotate_left
          · intro W hW; go_simp; try with_reducible rfl
          simp only [Act.put, List.setIfInBounds_toArray, List.set_cons_zero, List.set_cons_succ]
          refine regE_take (i := 9) (v := ?_) rfl (by kernel_rfl) (by kernel_rfl) (by kernel_rfl) (fun _ _ _ h => h) (by rfl) ?_ ?_
          rotate_left
          · intro W hW; go_simp; try with_reducible rfl
          simp only [Act.put, List.setIfInBounds_toArray, List.set_cons_zero, List.set_cons_succ]
          refine regE_do (i := 10) rfl (by kernel_rfl) (fun K hK => ?_)
          rw [if_pos (by rfl)]
          go_simp
          refine (S8.out _ _ _ _ (hX.ext hR)).mono ?_
          rintro e wr2 ⟨rfl, hXX⟩
          refine hK.out _ _ (hR.trans hXX) ?_
          clear hK K
          replace hR := hR.trans hXX
          clear hXX
          try simp only [Act.put, List.setIfInBounds_toArray, List.set_cons_zero, List.set_cons_succ]
          refine regE_take (i := 11) (v := ?_) rfl (by kernel_rfl) (by kernel_rfl) (by kernel_rfl) (fun _ _ _ h => h) (by rfl) ?_ ?_
          rotate_left
          · intro W hW; go_simp; try with_reducible rfl
          simp only [Act.put, List.setIfInBounds_toArray, List.set_cons_zero, List.set_cons_succ]
          refine regE_take (i := 12) (v := ?_) rfl (by kernel_rfl) (by kernel_rfl) (by kernel_rfl) (fun _ _ _ h => h) (by rfl) ?_ ?_
          rotate_left
          · intro W hW; go_simp; try with_reducible rfl
          simp only [Act.put, List.setIfInBounds_toArray, List.set_cons_zero, List.set_cons_succ]
          refine regE_take (i := 13) (v := ?_) rfl (by kernel_rfl) (by kernel_rfl) (by kernel_rfl) (fun _ _ _ h => h) (by rfl) ?_ ?_
          rotate_left
          · intro W hW; go_simp; try with_reducible rfl
          simp only [Act.put, List.setIfInBounds_toArray, List.set_cons_zero, List.set_cons_succ]
          refine regE_take (i := 14) (v := ?_) rfl (by kernel_rfl) (by kernel_rfl) (by kernel_rfl) (fun _ _ _ h => h) (by rfl) ?_ ?_
          rotate_left
          · intro W hW; go_simp; try with_reducible rfl
          simp only [Act.put, List.setIfInBounds_toArray, List.set_cons_zero, List.set_cons_succ]
          refine regE_take (i := 15) (v := ?_) rfl (by kernel_rfl) (by kernel_rfl) (by kernel_rfl) (fun _ _ _ h => h) (by rfl) ?_ ?_
          rotate_left
          · intro W hW; go_simp; try with_reducible rfl
          simp only [Act.put, List.setIfInBounds_toArray, List.set_cons_zero, List.set_cons_succ]
          refine regE_take (i := 16) (v := ?_) rfl (by kernel_rfl) (by kernel_rfl) (by kernel_rfl) (fun _ _ _ h => h) (by rfl) ?_ ?_
          rotate_left
          · intro W hW; go_simp; try with_reducible rfl
          simp only [Act.put, List.setIfInBounds_toArray, List.set_cons_zero, List.set_cons_succ]
          refine regE_skip (i := 17) rfl (by kernel_rfl) (by kernel_rfl) (by kernel_rfl) (fun _ _ _ h => h) (by rfl) ?_
          simp only [Act.put, List.setIfInBounds_toArray, List.set_cons_zero, List.set_cons_succ]
          refine regE_skip (i := 18) rfl (by kernel_rfl) (by kernel_rfl) (by kernel_rfl) (fun _ _ _ h => h) (by rfl) ?_
          simp only [Act.put, List.setIfInBounds_toArray, List.set_cons_zero, List.set_cons_succ]
          refine regE_skip (i := 19) rfl (by kernel_rfl) (by kernel_rfl) (by kernel_rfl) (fun _ _ _ h => h) (by rfl) ?_
          simp only [Act.put, List.setIfInBounds_toArray, List.set_cons_zero, List.set_cons_succ]
          refine regE_skip (i := 20) rfl (by kernel_rfl) (by kernel_rfl) (by kernel_rfl) (fun _ _ _ h => h) (by rfl) ?_
          simp only [Act.put, List.setIfInBounds_toArray, List.set_cons_zero, List.set_cons_succ]
          refine regE_skip (i := 21) rfl (by kernel_rfl) (by kernel_rfl) (by kernel_rfl) (fun _ _ _ h => h) (by rfl) ?_
          simp only [Act.put, List.setIfInBounds_toArray, List.set_cons_zero, List.set_cons_succ]
          refine regE_skip (i := 22) rfl (by kernel_rfl) (by kernel_rfl) (by kernel_rfl) (fun _ _ _ h => h) (by rfl) ?_
          simp only [Act.put, List.setIfInBounds_toArray, List.set_cons_zero, List.set_cons_succ]
          refine regE_skip (i := 23) rfl (by kernel_rfl) (by kernel_rfl) (by kernel_rfl) (fun _ _ _ h => h) (by rfl) ?_
          simp only [Act.put, List.setIfInBounds_toArray, List.set_cons_zero, List.set_cons_succ]
          refine regE_skip (i := 24) rfl (by kernel_rfl) (by kernel_rfl) (by kernel_rfl) (fun _ _ _ h => h) (by rfl) ?_
          simp only [Act.put, List.setIfInBounds_toArray, List.set_cons_zero, List.set_cons_succ]
          refine regE_skip (i := 25) rfl (by kernel_rfl) (by kernel_rfl) (by kernel_rfl) (fun _ _ _ h => h) (by rfl) ?_
          simp only [Act.put, List.setIfInBounds_toArray, List.set_cons_zero, List.set_cons_succ]
          refine regE_take (i := 26) (v := ?_) rfl (by kernel_rfl) (by kernel_rfl) (by kernel_rfl) (fun _ _ _ h => h) (by rfl) ?_ ?_
          rotate_left
          · intro W hW; go_simp; try with_reducible rfl
          simp only [Act.put, List.setIfInBounds_toArray, List.set_cons_zero, List.set_cons_succ]
          refine regE_take (i := 27) (v := ?_) rfl (by kernel_rfl) (by kernel_rfl) (by kernel_rfl) (fun _ _ _ h => h) (by rfl) ?_ ?_
          rotate_left
          · intro W hW; go_simp; try with_reducible rfl
          simp only [Act.put, List.setIfInBounds_toArray, List.set_cons_zero, List.set_cons_succ]
          refine regE_done (by kernel_rfl) ?_
          go_wp2_with fail
          go_meet
          case rel => exact hE7.trans hR
        · obtain ⟨rfl, rfl, ey2⟩ := HY2.out hr2
          obtain ⟨hk1, hk2⟩ := HR2.out
          rw [hr2] at hk1
          have hd2 := of_decide_eq_true hk1
          obtain ⟨k2, rfl⟩ := Int.eq_ofNat_of_zero_le hd2.1
          rw [Int.toNat_natCast] at ey2
          have hxy := HI.out k2 (by rw [hk2]; exact hk1)
          rw [← ey2] at hxy
          obtain ⟨s, hs⟩ : ∃ s, decide ((k : Int) = (k2 : Int) ∧ m = m2 ∧ l = l2) = s := ⟨_, rfl⟩
          have HS := hide hs
          have hxy2 : (y == y2) = s := by
            rw [← hs]
            by_cases q : y = y2
            · obtain ⟨a, b, c⟩ := hxy.1 q
              rw [beq_iff_eq.2 q, decide_eq_true ⟨by omega, b, c⟩]
            · rw [beq_eq_false_iff_ne.2 q, decide_eq_false fun z => q (hxy.2 ⟨by omega, z.2.1, z.2.2⟩)]
          have hrr : (s != s) = false := by cases s <;> rfl
          clear HY2 HN2 hr2 HI HR2 hxy ey2 hs hk1 hk2 hd2
          refine regE_start (by kernel_rfl) ?_
          have hR := (Ext.refl w7).drew
          generalize hgw : (w7).drew = wr0 at *
          clear hgw
          refine regE_take (i := 0) (v := ?_) rfl (by kernel_rfl) (by kernel_rfl) (by kernel_rfl) (fun _ _ _ h => h) (by rfl) ?_ ?_
          rotate_left
          · intro W hW; go_simp; try with_reducible rfl
          simp only [Act.put, List.setIfInBounds_toArray, List.set_cons_zero, List.set_cons_succ]
          refine regE_take (i := 1) (v := ?_) rfl (by kernel_rfl) (by kernel_rfl) (by kernel_rfl) (fun _ _ _ h => h) (by rfl) ?_ ?_
          rotate_left
          · intro W hW; go_simp; try with_reducible rfl
          simp only [Act.put, List.setIfInBounds_toArray, List.set_cons_zero, List.set_cons_succ]
          refine regE_take (i := 2) (v := ?_) rfl (by kernel_rfl) (by kernel_rfl) (by kernel_rfl) (fun _ _ _ h => h) (by rfl) ?_ ?_
          rotate_left
          · intro W hW; go_simp; try with_reducible rfl
          simp only [Act.put, List.setIfInBounds_toArray, List.set_cons_zero, List.set_cons_succ]
          refine regE_take (i := 3) (v := ?_) rfl (by kernel_rfl) (by kernel_rfl) (by kernel_rfl) (fun _ _ _ h => h) (by rfl) ?_ ?_
          rotate_left
          · intro W hW; obtain ⟨⟨u0, u1, u2⟩, _, _⟩ := (hbz.below hW hbz.lt).three; go_simp; try with_reducible rfl
          simp only [Act.put, List.setIfInBounds_toArray, List.set_cons_zero, List.set_cons_succ]
          refine regE_take (i := 4) (v := ?_) rfl (by kernel_rfl) (by kernel_rfl) (by kernel_rfl) (fun _ _ _ h => h) (by rfl) ?_ ?_
          rotate_left
          · intro W hW; obtain ⟨⟨u0, u1, u2⟩, _, _⟩ := (hbx.below hW hbx.lt).three; go_simp; try with_reducible rfl
          simp only [Act.put, List.setIfInBounds_toArray, List.set_cons_zero, List.set_cons_succ]
          refine regE_do (i := 5) rfl (by kernel_rfl) (fun K hK => ?_)
          rw [if_pos (by rfl)]
          go_simp
          refine (same17 (k : Int) m _ _ _ l (k : Int) m _ _ _ l _ (hZ.ext hR) (hh.ext hR) true (by simp)).mono ?_
          rintro e wr1 ⟨rfl, hXX⟩
          refine hK.out _ _ (hR.trans hXX) ?_
          clear hK K
          replace hR := hR.trans hXX
          clear hXX
          try simp only [Act.put, List.setIfInBounds_toArray, List.set_cons_zero, List.set_cons_succ]
          refine regE_take (i := 6) (v := ?_) rfl (by kernel_rfl) (by kernel_rfl) (by kernel_rfl) (fun _ _ _ h => h) (by rfl) ?_ ?_
          rotate_left
          · intro W hW; go_simp; try with_reducible rfl
          simp only [Act.put, List.setIfInBounds_toArray, List.set_cons_zero, List.set_cons_succ]
          refine regE_take (i := 7) (v := ?_) rfl (by kernel_rfl) (by kernel_rfl) (by kernel_rfl) (fun _ _ _ h => h) (by rfl) ?_ ?_
          rotate_left
          · intro W hW; go_simp; try with_reducible rfl
          simp only [Act.put, List.setIfInBounds_toArray, List.set_cons_zero, List.set_cons_succ]
          refine regE_take (i := 8) (v := ?_) rfl (by kernel_rfl) (by kernel_rfl) (by kernel_rfl) (fun _ _ _ h => h) (by rfl) ?_ ?_
          rotate_left
          · intro W hW; go_simp; try with_reducible rfl
          simp only [Act.put, List.setIfInBounds_toArray, List.set_cons_zero, List.set_cons_succ]
          refine regE_take (i := 9) (v := ?_) rfl (by kernel_rfl) (by kernel_rfl) (by kernel_rfl) (fun _ _ _ h => h) (by rfl) ?_ ?_
          rotate_left
          · intro W hW; go_simp; try with_reducible rfl
          simp only [Act.put, List.setIfInBounds_toArray, List.set_cons_zero, List.set_cons_succ]
          refine regE_do (i := 10) rfl (by kernel_rfl) (fun K hK => ?_)
          rw [if_pos (by rfl)]
          go_simp
          refine (S8.out _ _ _ _ (hX.ext hR)).mono ?_
          rintro e wr2 ⟨rfl, hXX⟩
          refine hK.out _ _ (hR.trans hXX) ?_
          clear hK K
          replace hR := hR.trans hXX
          clear hXX
          try simp only [Act.put, List.setIfInBounds_toArray, List.set_cons_zero, List.set_cons_succ]
          refine regE_take (i := 11) (v := ?_) rfl (by kernel_rfl) (by kernel_rfl) (by kernel_rfl) (fun _ _ _ h => h) (by rfl) ?_ ?_
          rotate_left
          · intro W hW; go_simp; try with_reducible rfl
          simp only [Act.put, List.setIfInBounds_toArray, List.set_cons_zero, List.set_cons_succ]
          refine regE_take (i := 12) (v := ?_) rfl (by kernel_rfl) (by kernel_rfl) (by kernel_rfl) (fun _ _ _ h => h) (by rfl) ?_ ?_
          rotate_left
          · intro W hW; go_simp; try with_reducible rfl
          simp only [Act.put, List.setIfInBounds_toArray, List.set_cons_zero, List.set_cons_succ]
          refine regE_take (i := 13) (v := ?_) rfl (by kernel_rfl) (by kernel_rfl) (by kernel_rfl) (fun _ _ _ h => h) (by rfl) ?_ ?_
          rotate_left
          · intro W hW; go_simp; try with_reducible rfl
          simp only [Act.put, List.setIfInBounds_toArray, List.set_cons_zero, List.set_cons_succ]
          refine regE_take (i := 14) (v := ?_) rfl (by kernel_rfl) (by kernel_rfl) (by kernel_rfl) (fun _ _ _ h => h) (by rfl) ?_ ?_
          rotate_left
          · intro W hW; go_simp; try with_reducible rfl
          simp only [Act.put, List.setIfInBounds_toArray, List.set_cons_zero, List.set_cons_succ]
          refine regE_take (i := 15) (v := ?_) rfl (by kernel_rfl) (by kernel_rfl) (by kernel_rfl) (fun _ _ _ h => h) (by rfl) ?_ ?_
          rotate_left
          · intro W hW; go_simp; try with_reducible rfl
          simp only [Act.put, List.setIfInBounds_toArray, List.set_cons_zero, List.set_cons_succ]
          refine regE_take (i := 16) (v := ?_) rfl (by kernel_rfl) (by kernel_rfl) (by kernel_rfl) (fun _ _ _ h => h) (by rfl) ?_ ?_
          rotate_left
          · intro W hW; go_simp; try with_reducible rfl
          simp only [Act.put, List.setIfInBounds_toArray, List.set_cons_zero, List.set_cons_succ]
          refine regE_take (i := 17) (v := ?_) rfl (by kernel_rfl) (by kernel_rfl) (by kernel_rfl) (fun _ _ _ h => h) (by rfl) ?_ ?_
          rotate_left
          · intro W hW; go_simp; try with_reducible rfl
          simp only [Act.put, List.setIfInBounds_toArray, List.set_cons_zero, List.set_cons_succ]
          refine regE_take (i := 18) (v := ?_) rfl (by kernel_rfl) (by kernel_rfl) (by kernel_rfl) (fun _ _ _ h => h) (by rfl) ?_ ?_
          rotate_left
          · intro W hW; have s1 := run_str (hX.ext hW); go_simp; try with_reducible rfl
          simp only [Act.put, List.setIfInBounds_toArray, List.set_cons_zero, List.set_cons_succ]
          refine regE_take (i := 19) (v := ?_) rfl (by kernel_rfl) (by kernel_rfl) (by kernel_rfl) (fun _ _ _ h => h) (by rfl) ?_ ?_
          rotate_left
          · intro W hW; go_simp; try with_reducible rfl
          simp only [Act.put, List.setIfInBounds_toArray, List.set_cons_zero, List.set_cons_succ]
          refine regE_take (i := 20) (v := ?_) rfl (by kernel_rfl) (by kernel_rfl) (by kernel_rfl) (fun _ _ _ h => h) (by rfl) ?_ ?_
          rotate_left
          · intro W hW; have s1 := run_str (hX2.ext hW); go_simp; try with_reducible rfl
          simp only [Act.put, List.setIfInBounds_toArray, List.set_cons_zero, List.set_cons_succ]
          refine regE_take (i := 21) (v := ?_) rfl (by kernel_rfl) (by kernel_rfl) (by kernel_rfl) (fun _ _ _ h => h) (by rfl) ?_ ?_
          rotate_left
          · intro W hW; go_simp; try with_reducible rfl
          simp only [Act.put, List.setIfInBounds_toArray, List.set_cons_zero, List.set_cons_succ]
          refine regE_take (i := 22) (v := ?_) rfl (by kernel_rfl) (by kernel_rfl) (by kernel_rfl) (fun _ _ _ h => h) (by rfl) ?_ ?_
          rotate_left
          · intro W hW; obtain ⟨⟨u0, u1, u2⟩, _, _⟩ := (hbx.below hW hbx.lt).three; go_simp; try with_reducible rfl
          simp only [Act.put, List.setIfInBounds_toArray, List.set_cons_zero, List.set_cons_succ]
          refine regE_take (i := 23) (v := ?_) rfl (by kernel_rfl) (by kernel_rfl) (by kernel_rfl) (fun _ _ _ h => h) (by rfl) ?_ ?_
          rotate_left
          · intro W hW; obtain ⟨⟨u0, u1, u2⟩, _, _⟩ := (hbk.below hW hbk.lt).three; go_simp; try with_reducible rfl
          simp only [Act.put, List.setIfInBounds_toArray, List.set_cons_zero, List.set_cons_succ]
          refine regE_do (i := 24) rfl (by kernel_rfl) (fun K hK => ?_)
          rw [if_pos (by rfl)]
          go_simp
          refine (same17 (k : Int) m _ _ _ l (k2 : Int) m2 _ _ _ l2 _ (hh.ext hR) (hk.ext hR) s HS.out).mono ?_
          rintro e wr3 ⟨rfl, hXX⟩
          refine hK.out _ _ (hR.trans hXX) ?_
          clear hK K
          replace hR := hR.trans hXX
          clear hXX
          try simp only [Act.put, List.setIfInBounds_toArray, List.set_cons_zero, List.set_cons_succ]
          refine regE_take (i := 25) (v := ?_) rfl (by kernel_rfl) (by kernel_rfl) (by kernel_rfl) (fun _ _ _ h => h) (by rfl) ?_ ?_
          rotate_left
          · intro W hW; go_simp; try with_reducible rfl
          simp only [Act.put, List.setIfInBounds_toArray, List.set_cons_zero, List.set_cons_succ]
          refine regE_take (i := 26) (v := ?_) rfl (by kernel_rfl) (by kernel_rfl) (by kernel_rfl) (fun _ _ _ h => h) (by rfl) ?_ ?_
          rotate_left
          · intro W hW; go_simp; try with_reducible rfl
          simp only [Act.put, List.setIfInBounds_toArray, List.set_cons_zero, List.set_cons_succ]
          refine regE_take (i := 27) (v := ?_) rfl (by kernel_rfl) (by kernel_rfl) (by kernel_rfl) (fun _ _ _ h => h) (by rfl) ?_ ?_
          rotate_left
          · intro W hW; go_simp; try with_reducible rfl
          simp only [Act.put, List.setIfInBounds_toArray, List.set_cons_zero, List.set_cons_succ]
          refine regE_done (by kernel_rfl) ?_
          go_wp2_with fail
          go_meet
          case rel => exact hE7.trans hR
    case rest =>
      replace hE := hE.trans hcut
      replace hb := hb.ext hcut
      clear hcut HR1 HR2 HY1 HN1 HY2 HN2 hX hX2 hh hk hbx hbk
      have hbl := hb.len
      by_cases hE0 : rbE b = 0
      · obtain ⟨z1, z2, z3⟩ := rb_read b hE0
        obtain ⟨X, hXe⟩ : ∃ X, rbX b = X := ⟨_, rfl⟩
        obtain ⟨M, hMe⟩ : ∃ X, rbM b = X := ⟨_, rfl⟩
        obtain ⟨L, hLe⟩ : ∃ X, rbL b = X := ⟨_, rfl⟩
        obtain ⟨N, hNe⟩ : ∃ X, L.length = X := ⟨_, rfl⟩
        rw [hXe, hMe, hLe] at z1 z2 z3
        rw [hNe] at z1
        obtain ⟨yb, hyb⟩ : ∃ Z, rbBytes X M L = Z := ⟨_, rfl⟩
        rw [hyb] at z2 z3
        obtain ⟨s, hs⟩ : ∃ s, rbC b = s := ⟨_, rfl⟩
        have hyl : 8 + 4 * N = n3 := by
          rw [← hbl, ← z2, ← hyb, ← hNe]
          simp [rbBytes, rbFix, be_length, cBe_len]; omega
        have S5 := hide (fun W hb => read17_B A3 n3 c3 b W hb X M L 0 N hXe hMe hLe hE0 hNe)
        have S9 := hide (fun W A c hY => write17_B X M L A c N W hY z1 yb hyb)
        rw [hyl] at S9
        have S10 := hide (fun W A c => right17 (X : Int) M A N c W)
        rw [z1] at S10
        have S11 := hide (fun W hb => canon17_any A3 n3 c3 b W hb s hs)
        have hyy : (yb == b) = s := by
          rw [← hs, z3]
          by_cases q : yb = b
          · rw [beq_iff_eq.2 q, decide_eq_true q]
          · rw [beq_eq_false_iff_ne.2 q, decide_eq_false q]
        have hss : (s == s) = true := by cases s <;> rfl
        clear z1 z2 z3 hXe hMe hLe hNe hyb hs hyl hE0 hbl
        go_wp2_with fail
        refine (S5.out _ hb).mono ?_
        rintro e wa ⟨Aq, cq, rfl, hY, hE2⟩
        have hby := Blk.new wa 84 #[.int .i64 (X : Int), .int .u32 (M : Int), .slice Aq N cq]
        have hE3 := hE2.alloc (.cells #[.int .i64 (X : Int), .int .u32 (M : Int), .slice Aq N cq] 84)
        replace hY := hY.alloc (.cells #[.int .i64 (X : Int), .int .u32 (M : Int), .slice Aq N cq] 84)
        replace hE := hE.trans hE3
        replace hb := hb.ext hE3
        clear hE3 S5 hE2
        go_wp2_with fail
        refine (S9.out _ _ _ hY).mono ?_
        rintro e wb ⟨Aw, cw, rfl, hW2, hE2⟩
        replace hE := hE.trans hE2
        replace hb := hb.ext hE2
        replace hby := hby.below hE2 hby.lt
        clear hE2 S9 hY
        go_wp2_with fail
        refine regE_start (by kernel_rfl) ?_
        have hR := (Ext.refl wb).drew
        generalize hgw : (wb).drew = wr0 at *
        clear hgw
        refine regE_take (i := 0) (v := ?_) rfl (by kernel_rfl) (by kernel_rfl) (by kernel_rfl) (fun _ _ _ h => h) (by rfl) ?_ ?_
        rotate_left
        · intro W hW; go_simp; try with_reducible rfl
        simp only [Act.put, List.setIfInBounds_toArray, List.set_cons_zero, List.set_cons_succ]
        refine regE_take (i := 1) (v := ?_) rfl (by kernel_rfl) (by kernel_rfl) (by kernel_rfl) (fun _ _ _ h => h) (by rfl) ?_ ?_
        rotate_left
        · intro W hW; go_simp; try with_reducible rfl
        simp only [Act.put, List.setIfInBounds_toArray, List.set_cons_zero, List.set_cons_succ]
        refine regE_take (i := 2) (v := ?_) rfl (by kernel_rfl) (by kernel_rfl) (by kernel_rfl) (fun _ _ _ h => h) (by rfl) ?_ ?_
        rotate_left
        · intro W hW; go_simp; try with_reducible rfl
        simp only [Act.put, List.setIfInBounds_toArray, List.set_cons_zero, List.set_cons_succ]
        refine regE_take (i := 3) (v := ?_) rfl (by kernel_rfl) (by kernel_rfl) (by kernel_rfl) (fun _ _ _ h => h) (by rfl) ?_ ?_
        rotate_left
        · intro W hW; obtain ⟨⟨u0, u1, u2⟩, _, _⟩ := (hby.below hW hby.lt).three; go_simp; try with_reducible rfl
        simp only [Act.put, List.setIfInBounds_toArray, List.set_cons_zero, List.set_cons_succ]
        refine regE_do (i := 4) rfl (by kernel_rfl) (fun K hK => ?_)
        rw [if_pos (by rfl)]
        go_simp
        refine (S10.out _ _ _).mono ?_
        rintro e wr1 ⟨rfl, hXX⟩
        refine hK.out _ _ (hR.trans hXX) ?_
        clear hK K
        replace hR := hR.trans hXX
        clear hXX
        try simp only [Act.put, List.setIfInBounds_toArray, List.set_cons_zero, List.set_cons_succ]
        refine regE_take (i := 5) (v := ?_) rfl (by kernel_rfl) (by kernel_rfl) (by kernel_rfl) (fun _ _ _ h => h) (by rfl) ?_ ?_
        rotate_left
        · intro W hW; go_simp; try with_reducible rfl
        simp only [Act.put, List.setIfInBounds_toArray, List.set_cons_zero, List.set_cons_succ]
        refine regE_take (i := 6) (v := ?_) rfl (by kernel_rfl) (by kernel_rfl) (by kernel_rfl) (fun _ _ _ h => h) (by rfl) ?_ ?_
        rotate_left
        · intro W hW; go_simp; try with_reducible rfl
        simp only [Act.put, List.setIfInBounds_toArray, List.set_cons_zero, List.set_cons_succ]
        refine regE_take (i := 7) (v := ?_) rfl (by kernel_rfl) (by kernel_rfl) (by kernel_rfl) (fun _ _ _ h => h) (by rfl) ?_ ?_
        rotate_left
        · intro W hW; go_simp; try with_reducible rfl
        simp only [Act.put, List.setIfInBounds_toArray, List.set_cons_zero, List.set_cons_succ]
        refine regE_take (i := 8) (v := ?_) rfl (by kernel_rfl) (by kernel_rfl) (by kernel_rfl) (fun _ _ _ h => h) (by rfl) ?_ ?_
        rotate_left
        · intro W hW; go_simp; try with_reducible rfl
        simp only [Act.put, List.setIfInBounds_toArray, List.set_cons_zero, List.set_cons_succ]
        refine regE_take (i := 9) (v := ?_) rfl (by kernel_rfl) (by kernel_rfl) (by kernel_rfl) (fun _ _ _ h => h) (by rfl) ?_ ?_
        rotate_left
        · intro W hW; go_simp; try with_reducible rfl
        simp only [Act.put, List.setIfInBounds_toArray, List.set_cons_zero, List.set_cons_succ]
        refine regE_take (i := 10) (v := ?_) rfl (by kernel_rfl) (by kernel_rfl) (by kernel_rfl) (fun _ _ _ h => h) (by rfl) ?_ ?_
        rotate_left
        · intro W hW; go_simp; try with_reducible rfl
        simp only [Act.put, List.setIfInBounds_toArray, List.set_cons_zero, List.set_cons_succ]
        refine regE_take (i := 11) (v := ?_) rfl (by kernel_rfl) (by kernel_rfl) (by kernel_rfl) (fun _ _ _ h => h) (by rfl) ?_ ?_
        rotate_left
        · intro W hW; go_simp; try with_reducible rfl
        simp only [Act.put, List.setIfInBounds_toArray, List.set_cons_zero, List.set_cons_succ]
        refine regE_take (i := 12) (v := ?_) rfl (by kernel_rfl) (by kernel_rfl) (by kernel_rfl) (fun _ _ _ h => h) (by rfl) ?_ ?_
        rotate_left
        · intro W hW; go_simp; try with_reducible rfl
        simp only [Act.put, List.setIfInBounds_toArray, List.set_cons_zero, List.set_cons_succ]
        refine regE_take (i := 13) (v := ?_) rfl (by kernel_rfl) (by kernel_rfl) (by kernel_rfl) (fun _ _ _ h => h) (by rfl) ?_ ?_
        rotate_left
        · intro W hW; go_simp; try with_reducible rfl
        simp only [Act.put, List.setIfInBounds_toArray, List.set_cons_zero, List.set_cons_succ]
        refine regE_take (i := 14) (v := ?_) rfl (by kernel_rfl) (by kernel_rfl) (by kernel_rfl) (fun _ _ _ h => h) (by rfl) ?_ ?_
        rotate_left
        · intro W hW; go_simp; try with_reducible rfl
        simp only [Act.put, List.setIfInBounds_toArray, List.set_cons_zero, List.set_cons_succ]
        refine regE_take (i := 16) (v := ?_) rfl (by kernel_rfl) (by kernel_rfl) (by kernel_rfl) (fun _ _ _ h => h) (by rfl) ?_ ?_
        rotate_left
        · intro W hW; go_simp; try with_reducible rfl
        simp only [Act.put, List.setIfInBounds_toArray, List.set_cons_zero, List.set_cons_succ]
        refine regE_take (i := 17) (v := ?_) rfl (by kernel_rfl) (by kernel_rfl) (by kernel_rfl) (fun _ _ _ h => h) (by rfl) ?_ ?_
        rotate_left
        · intro W hW; have s1 := run_str (hW2.ext hW); go_simp; try with_reducible rfl
        simp only [Act.put, List.setIfInBounds_toArray, List.set_cons_zero, List.set_cons_succ]
        refine regE_take (i := 18) (v := ?_) rfl (by kernel_rfl) (by kernel_rfl) (by kernel_rfl) (fun _ _ _ h => h) (by rfl) ?_ ?_
        rotate_left
        · intro W hW; go_simp; try with_reducible rfl
        simp only [Act.put, List.setIfInBounds_toArray, List.set_cons_zero, List.set_cons_succ]
        refine regE_take (i := 19) (v := ?_) rfl (by kernel_rfl) (by kernel_rfl) (by kernel_rfl) (fun _ _ _ h => h) (by rfl) ?_ ?_
        rotate_left
        · intro W hW; have s1 := run_str (hb.ext hW); go_simp; try with_reducible rfl
        simp only [Act.put, List.setIfInBounds_toArray, List.set_cons_zero, List.set_cons_succ]
        refine regE_take (i := 20) (v := ?_) rfl (by kernel_rfl) (by kernel_rfl) (by kernel_rfl) (fun _ _ _ h => h) (by rfl) ?_ ?_
        rotate_left
        · intro W hW; go_simp; try with_reducible rfl
        simp only [Act.put, List.setIfInBounds_toArray, List.set_cons_zero, List.set_cons_succ]
        refine regE_do (i := 15) rfl (by kernel_rfl) (fun K hK => ?_)
        rw [if_pos (by rfl)]
        go_simp
        refine (S11.out _ (hb.ext hR)).mono ?_
        rintro e wr2 ⟨rfl, hXX⟩
        refine hK.out _ _ (hR.trans hXX) ?_
        clear hK K
        replace hR := hR.trans hXX
        clear hXX
        try simp only [Act.put, List.setIfInBounds_toArray, List.set_cons_zero, List.set_cons_succ]
        refine regE_take (i := 21) (v := ?_) rfl (by kernel_rfl) (by kernel_rfl) (by kernel_rfl) (fun _ _ _ h => h) (by rfl) ?_ ?_
        rotate_left
        · intro W hW; go_simp; try with_reducible rfl
        simp only [Act.put, List.setIfInBounds_toArray, List.set_cons_zero, List.set_cons_succ]
        refine regE_take (i := 22) (v := ?_) rfl (by kernel_rfl) (by kernel_rfl) (by kernel_rfl) (fun _ _ _ h => h) (by rfl) ?_ ?_
        rotate_left
        · intro W hW; go_simp; try with_reducible rfl
        simp only [Act.put, List.setIfInBounds_toArray, List.set_cons_zero, List.set_cons_succ]
        refine regE_take (i := 23) (v := ?_) rfl (by kernel_rfl) (by kernel_rfl) (by kernel_rfl) (fun _ _ _ h => h) (by rfl) ?_ ?_
        rotate_left
        · intro W hW; go_simp; try with_reducible rfl
        simp only [Act.put, List.setIfInBounds_toArray, List.set_cons_zero, List.set_cons_succ]
        refine regE_done (by kernel_rfl) ?_
        go_wp2_with fail
        go_ret
        exact ⟨rfl, hE.trans hR⟩
      · have q1 : rbX b = 0 := by unfold rbX; rw [if_neg hE0]
        have q2 : rbM b = 0 := by unfold rbM; rw [if_neg hE0]
        have q3 : rbL b = [] := by unfold rbL; rw [if_neg hE0]
        have q4 : rbC b = false := decide_eq_false fun z => hE0 z.1
        obtain ⟨E, hEe⟩ : ∃ E, rbE b = E := ⟨_, rfl⟩
        have S5 := hide (fun W hb => read17_B A3 n3 c3 b W hb 0 0 [] E 0 q1 q2 q3 hEe rfl)
        have S11 := hide (fun W hb => canon17_any A3 n3 c3 b W hb false q4)
        have S12 := hide (fun W A c (h : Els e32 W A 0 c []) => same17 0 0 A 0 c [] 0 0 none 0 0 [] W h (Els.nil W) true (by simp))
        rw [hEe] at hE0
        have hne : (E != 0) = true := bne_iff_ne.2 hE0
        clear q1 q2 q3 q4 hEe hE0 hbl
        go_wp2_with fail
        refine (S5.out _ hb).mono ?_
        rintro e wa ⟨Az, cz, rfl, hZ, hE2⟩
        have hby := Blk.new wa 84 #[.int .i64 0, .int .u32 (0 : Int), .slice Az 0 cz]
        have hE3 := hE2.alloc (.cells #[.int .i64 0, .int .u32 (0 : Int), .slice Az 0 cz] 84)
        replace hE := hE.trans hE3
        replace hb := hb.ext hE3
        clear hE3 hE2
        go_wp2_with fail
        refine (S12.out _ _ _ (Els.empty hZ)).mono ?_
        rintro e wb ⟨rfl, hE3⟩
        replace hE := hE.trans hE3
        replace hb := hb.ext hE3
        clear hE3
        go_wp2_with fail
        refine (S11.out _ hb).mono ?_
        rintro e wc ⟨rfl, hE4⟩
        go_wp2_with fail
        go_ret
        exact ⟨rfl, hE.trans hE4⟩
end Go.Proofs.Ythepndimhiieiaa

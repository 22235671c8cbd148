/- RembRight: the walk. (Written by wip/gen/lawrembr.py: the remainder behind the first if stands twice.) -/
import Derived.Test.YthepndimhiieiaaRembT
namespace Go.Proofs.Ythepndimhiieiaa
open Go.RowKit
theorem read17_B' (A : Option Addr) (n c : Nat) (b : List UInt8) (w : World) (hb : Bytes w A n c b) (X M : Nat) (L : List UInt32) (E : Int) (N : Nat) (e1 : rbX b = X) (e2 : rbM b = M) (e3 : rbL b = L) (e4 : rbE b = E) (e5 : L.length = N) : Calls Try.prog 47 #[.slice A n c] w fun e w' =>
    ∃ A' c', e = .returned (.tuple #[.agg #[.int .i64 (X : Int), .int .u32 (M : Int), .slice A' N c'], .int .i64 E]) ∧ Els e32 w' A' N c' L ∧ Ext w w' := by
  subst e1 e2 e3 e4 e5
  exact read17_any A n c b w hb
set_option maxRecDepth 100000 in
set_option maxHeartbeats 4000000 in
theorem law_rembright (x : Int) (m : Nat) (l : List UInt32) (A : Option Addr) (n c : Nat) (A2 : Option Addr) (n2 c2 : Nat) (b : List UInt8) (v : Nat) (hv : v < 18446744073709551616) (w : World) (hh : Els e32 w A n c l) (hb : Bytes w A2 n2 c2 b) :
    Calls Try.prog 12 #[.agg #[.int .i64 x, .int .u32 (m : Int), .slice A n c], .slice A2 n2 c2, .int .u64 (v : Int)] w fun e w' => e = .returned (.bool true) ∧ Ext w w' := by
  have hbx := Blk.new w 84 #[.int .i64 x, .int .u32 (m : Int), .slice A n c]
  have hE := (Ext.refl w).alloc (.cells #[.int .i64 x, .int .u32 (m : Int), .slice A n c] 84)
  replace hh := hh.ext hE
  replace hb := hb.ext hE
  by_cases hbig : 999 < n ∨ 70000 < n2
  · have d1 : (999 : Int) < (n : Int) ∨ ((70000 : Int) < (n2 : Int) ∧ ¬ (999 : Int) < (n : Int)) := by omega
    rcases d1 with d1 | ⟨d1, d2⟩
    all_goals
      go_enter Try.func12, Try.ntmps12
      go_wp2_with fail
      refine (awake17 _).mono ?_
      rintro e w1 ⟨rfl, hE2⟩
      replace hbx := hbx.below hE2 hbx.lt
      obtain ⟨⟨u0, u1, u2⟩, _, _⟩ := hbx.three
      go_wp2_with fail
      go_ret
      exact ⟨rfl, hE.trans hE2⟩
  · have d1 : ¬ (70000 : Int) < (n2 : Int) := by omega
    have d2 : ¬ (999 : Int) < (n : Int) := by omega
    clear hbig
    obtain ⟨r, hr⟩ : ∃ r, rbRight x m n = r := ⟨_, rfl⟩
    have S1 := hide (fun W => right17 x m A n c W)
    rw [hr] at S1
    have S1b := hide (fun W => rright17 x m A n c W r hr)
    have S2 := hide (fun W hh => write17_gen x m l A c n W hh r hr)
    have S3 := hide (fun W hh (k : Nat) (hk : x = (k : Int)) (hr2 : rbRight (k : Int) m n = true) y (hy : rbBytes k m l = y) => rwrite17_B k m l A c n W hh hr2 y hy)
    obtain ⟨X, hXe⟩ : ∃ X, rbX b = X := ⟨_, rfl⟩
    obtain ⟨M, hMe⟩ : ∃ X, rbM b = X := ⟨_, rfl⟩
    obtain ⟨L, hLe⟩ : ∃ X, rbL b = X := ⟨_, rfl⟩
    obtain ⟨N, hNe⟩ : ∃ X, L.length = X := ⟨_, rfl⟩
    obtain ⟨E, hEe⟩ : ∃ X, rbE b = X := ⟨_, rfl⟩
    obtain ⟨s, hs⟩ : ∃ s, rbC b = s := ⟨_, rfl⟩
    obtain ⟨V, hV⟩ : ∃ V, rbValI x m n = V := ⟨_, rfl⟩
    obtain ⟨ox, hox⟩ : ∃ V, ofX v = V := ⟨_, rfl⟩
    obtain ⟨om, hom⟩ : ∃ V, ofM v = V := ⟨_, rfl⟩
    have S5 := hide (fun W hb => read17_B' A2 n2 c2 b W hb X M L E N hXe hMe hLe hEe hNe)
    have S6 := hide (fun W hb => rread17_B A2 n2 c2 b W hb X M L E N hXe hMe hLe hEe hNe)
    have S7 := hide (fun W hb => canon17_any A2 n2 c2 b W hb s hs)
    have S8 := hide (fun W hb => rcanon17_any A2 n2 c2 b W hb s hs)
    have S9 := hide (fun W => of17 v hv ox om hox hom W)
    have S10 := hide (fun W => rof17 v hv ox om hox hom W)
    have S11 := hide (fun W => value17_B x m A n c W V hV)
    have S12 := hide (fun W => rvalue17_B x m A n c W V hV)
    have hss : (s == s) = true := by cases s <;> rfl
    have hrr : (r == r) = true := by cases r <;> rfl
    have HR := hide hr
    clear hr hXe hMe hLe hNe hEe hs hV hox hom hv
    go_enter Try.func12, Try.ntmps12
    go_wp2_with fail
    refine (awake17 _).mono ?_
    rintro e w1 ⟨rfl, hE2⟩
    replace hE := hE.trans hE2
    replace hh := hh.ext hE2
    replace hb := hb.ext hE2
    replace hbx := hbx.below hE2 hbx.lt
    clear hE2
    obtain ⟨⟨u0, u1, u2⟩, _, _⟩ := hbx.three
    go_wp2_with fail
    clear u0 u1 u2
    refine (S1b.out _).mono ?_
    rintro e w2 ⟨rfl, hE2⟩
    replace hE := hE.trans hE2
    replace hh := hh.ext hE2
    replace hb := hb.ext hE2
    replace hbx := hbx.below hE2 hbx.lt
    clear hE2 S1b
    obtain ⟨⟨u0, u1, u2⟩, _, _⟩ := hbx.three
    go_wp2_with fail
    clear u0 u1 u2
    refine (S2.out _ hh).mono ?_
    rintro e w3 ⟨Ax, Nx, cx, y, Ex, rfl, hX, hy1, hn1, hE2⟩
    have HY1 := hide hy1
    have HN1 := hide hn1
    replace hE := hE.trans hE2
    replace hh := hh.ext hE2
    replace hb := hb.ext hE2
    replace hbx := hbx.below hE2 hbx.lt
    clear hE2 S2 hy1 hn1
    cases r
    · obtain ⟨rfl, rfl⟩ := HN1.out rfl
      clear HY1 HN1 S3 HR
      go_wp2_with fail
      refine (S5.out _ hb).mono ?_
      rintro e wa ⟨Ap, cp, rfl, hP, hE2⟩
      have hbp := Blk.new wa 84 #[.int .i64 (X : Int), .int .u32 (M : Int), .slice Ap N cp]
      have hE3 := hE2.alloc (.cells #[.int .i64 (X : Int), .int .u32 (M : Int), .slice Ap N cp] 84)
      replace hP := hP.alloc (.cells #[.int .i64 (X : Int), .int .u32 (M : Int), .slice Ap N cp] 84)
      replace hE := hE.trans hE3
      replace hb := hb.ext hE3
      replace hbx := hbx.below hE3 hbx.lt
      clear hE3 S5 hE2
      go_wp2_with fail
      refine (S6.out _ hb).mono ?_
      rintro e wb ⟨Aq, cq, rfl, hQ, hE2⟩
      have hbq := Blk.new wb 84 #[.int .i64 (X : Int), .int .u32 (M : Int), .slice Aq N cq]
      have hE3 := hE2.alloc (.cells #[.int .i64 (X : Int), .int .u32 (M : Int), .slice Aq N cq] 84)
      replace hQ := hQ.alloc (.cells #[.int .i64 (X : Int), .int .u32 (M : Int), .slice Aq N cq] 84)
      replace hE := hE.trans hE3
      replace hb := hb.ext hE3
      replace hP := hP.ext hE3
      replace hbx := hbx.below hE3 hbx.lt
      replace hbp := hbp.below hE3 hbp.lt
      clear hE3 S6 hE2
      go_upto_region 14 with fail
      obtain ⟨gp, hgp⟩ : ∃ g, wa.heap.size = g := ⟨_, rfl⟩
      obtain ⟨gq, hgq⟩ : ∃ g, wb.heap.size = g := ⟨_, rfl⟩
      obtain ⟨g0, hg0⟩ : ∃ g, w.heap.size = g := ⟨_, rfl⟩
      rw [hgp] at hbp
      rw [hgq] at hbq
      rw [hg0] at hbx
      rw [hgp, hgq, hg0]
      generalize hgw : wb.alloc (.cells #[.int .i64 (X : Int), .int .u32 (M : Int), .slice Aq N cq] 84) = wc at *
      clear hgw hgp hgq hg0
      refine regE_start (by kernel_rfl) ?_
      have hR := (Ext.refl wc).drew
      generalize hgw : (wc).drew = wr0 at *
      clear hgw
      refine regE_take (i := 0) (v := ?_) rfl (by kernel_rfl) (by kernel_rfl) (by kernel_rfl) (fun _ _ _ h => h) (by rfl) ?_ ?_
      rotate_left
      · intro W hW; obtain ⟨⟨u0, u1, u2⟩, _, _⟩ := (hbx.below hW hbx.lt).three; go_simp; try with_reducible rfl
      simp only [Act.put, List.setIfInBounds_toArray, List.set_cons_zero, List.set_cons_succ]
      refine regE_take (i := 2) (v := ?_) rfl (by kernel_rfl) (by kernel_rfl) (by kernel_rfl) (fun _ _ _ h => h) (by rfl) ?_ ?_
      rotate_left
      · intro W hW; go_simp; try with_reducible rfl
      simp only [Act.put, List.setIfInBounds_toArray, List.set_cons_zero, List.set_cons_succ]
      refine regE_do (i := 1) rfl (by kernel_rfl) (fun K hK => ?_)
      rw [if_pos (by rfl)]
      go_simp
      refine (S1.out _).mono ?_
      rintro e wr1 ⟨rfl, hXX⟩
      refine hK.out _ _ (hR.trans hXX) ?_
      clear hK K
      replace hR := hR.trans hXX
      clear hXX
      try simp only [Act.put, List.setIfInBounds_toArray, List.set_cons_zero, List.set_cons_succ]
      refine regE_take (i := 3) (v := ?_) rfl (by kernel_rfl) (by kernel_rfl) (by kernel_rfl) (fun _ _ _ h => h) (by rfl) ?_ ?_
      rotate_left
      · intro W hW; go_simp; try with_reducible rfl
      simp only [Act.put, List.setIfInBounds_toArray, List.set_cons_zero, List.set_cons_succ]
      refine regE_take (i := 4) (v := ?_) rfl (by kernel_rfl) (by kernel_rfl) (by kernel_rfl) (fun _ _ _ h => h) (by rfl) ?_ ?_
      rotate_left
      · intro W hW; go_simp; try with_reducible rfl
      simp only [Act.put, List.setIfInBounds_toArray, List.set_cons_zero, List.set_cons_succ]
      refine regE_take (i := 5) (v := ?_) rfl (by kernel_rfl) (by kernel_rfl) (by kernel_rfl) (fun _ _ _ h => h) (by rfl) ?_ ?_
      rotate_left
      · intro W hW; go_simp; try with_reducible rfl
      simp only [Act.put, List.setIfInBounds_toArray, List.set_cons_zero, List.set_cons_succ]
      refine regE_take (i := 6) (v := ?_) rfl (by kernel_rfl) (by kernel_rfl) (by kernel_rfl) (fun _ _ _ h => h) (by rfl) ?_ ?_
      rotate_left
      · intro W hW; go_simp; try with_reducible rfl
      simp only [Act.put, List.setIfInBounds_toArray, List.set_cons_zero, List.set_cons_succ]
      refine regE_take (i := 7) (v := ?_) rfl (by kernel_rfl) (by kernel_rfl) (by kernel_rfl) (fun _ _ _ h => h) (by rfl) ?_ ?_
      rotate_left
      · intro W hW; go_simp; try with_reducible rfl
      simp only [Act.put, List.setIfInBounds_toArray, List.set_cons_zero, List.set_cons_succ]
      refine regE_take (i := 8) (v := ?_) rfl (by kernel_rfl) (by kernel_rfl) (by kernel_rfl) (fun _ _ _ h => h) (by rfl) ?_ ?_
      rotate_left
      · intro W hW; go_simp; try with_reducible rfl
      simp only [Act.put, List.setIfInBounds_toArray, List.set_cons_zero, List.set_cons_succ]
      refine regE_take (i := 9) (v := ?_) rfl (by kernel_rfl) (by kernel_rfl) (by kernel_rfl) (fun _ _ _ h => h) (by rfl) ?_ ?_
      rotate_left
      · intro W hW; go_simp; try with_reducible rfl
      simp only [Act.put, List.setIfInBounds_toArray, List.set_cons_zero, List.set_cons_succ]
      refine regE_take (i := 10) (v := ?_) rfl (by kernel_rfl) (by kernel_rfl) (by kernel_rfl) (fun _ _ _ h => h) (by rfl) ?_ ?_
      rotate_left
      · intro W hW; obtain ⟨⟨u0, u1, u2⟩, _, _⟩ := (hbp.below hW hbp.lt).three; go_simp; try with_reducible rfl
      simp only [Act.put, List.setIfInBounds_toArray, List.set_cons_zero, List.set_cons_succ]
      refine regE_take (i := 11) (v := ?_) rfl (by kernel_rfl) (by kernel_rfl) (by kernel_rfl) (fun _ _ _ h => h) (by rfl) ?_ ?_
      rotate_left
      · intro W hW; obtain ⟨⟨u0, u1, u2⟩, _, _⟩ := (hbq.below hW hbq.lt).three; go_simp; try with_reducible rfl
      simp only [Act.put, List.setIfInBounds_toArray, List.set_cons_zero, List.set_cons_succ]
      refine regE_do (i := 12) rfl (by kernel_rfl) (fun K hK => ?_)
      rw [if_pos (by rfl)]
      go_simp
      refine (same17 (X : Int) M _ _ _ L (X : Int) M _ _ _ L _ (hP.ext hR) (hQ.ext hR) true (by simp)).mono ?_
      rintro e wr2 ⟨rfl, hXX⟩
      refine hK.out _ _ (hR.trans hXX) ?_
      clear hK K
      replace hR := hR.trans hXX
      clear hXX
      try simp only [Act.put, List.setIfInBounds_toArray, List.set_cons_zero, List.set_cons_succ]
      refine regE_take (i := 13) (v := ?_) rfl (by kernel_rfl) (by kernel_rfl) (by kernel_rfl) (fun _ _ _ h => h) (by rfl) ?_ ?_
      rotate_left
      · intro W hW; go_simp; try with_reducible rfl
      simp only [Act.put, List.setIfInBounds_toArray, List.set_cons_zero, List.set_cons_succ]
      refine regE_take (i := 14) (v := ?_) rfl (by kernel_rfl) (by kernel_rfl) (by kernel_rfl) (fun _ _ _ h => h) (by rfl) ?_ ?_
      rotate_left
      · intro W hW; go_simp; try with_reducible rfl
      simp only [Act.put, List.setIfInBounds_toArray, List.set_cons_zero, List.set_cons_succ]
      refine regE_take (i := 15) (v := ?_) rfl (by kernel_rfl) (by kernel_rfl) (by kernel_rfl) (fun _ _ _ h => h) (by rfl) ?_ ?_
      rotate_left
      · intro W hW; go_simp; try with_reducible rfl
      simp only [Act.put, List.setIfInBounds_toArray, List.set_cons_zero, List.set_cons_succ]
      refine regE_take (i := 17) (v := ?_) rfl (by kernel_rfl) (by kernel_rfl) (by kernel_rfl) (fun _ _ _ h => h) (by rfl) ?_ ?_
      rotate_left
      · intro W hW; go_simp; try with_reducible rfl
      simp only [Act.put, List.setIfInBounds_toArray, List.set_cons_zero, List.set_cons_succ]
      refine regE_do (i := 16) rfl (by kernel_rfl) (fun K hK => ?_)
      rw [if_pos (by rfl)]
      go_simp
      refine (S7.out _ (hb.ext hR)).mono ?_
      rintro e wr3 ⟨rfl, hXX⟩
      refine hK.out _ _ (hR.trans hXX) ?_
      clear hK K
      replace hR := hR.trans hXX
      clear hXX
      try simp only [Act.put, List.setIfInBounds_toArray, List.set_cons_zero, List.set_cons_succ]
      refine regE_do (i := 18) rfl (by kernel_rfl) (fun K hK => ?_)
      rw [if_pos (by rfl)]
      go_simp
      refine (S8.out _ (hb.ext hR)).mono ?_
      rintro e wr4 ⟨rfl, hXX⟩
      refine hK.out _ _ (hR.trans hXX) ?_
      clear hK K
      replace hR := hR.trans hXX
      clear hXX
      try simp only [Act.put, List.setIfInBounds_toArray, List.set_cons_zero, List.set_cons_succ]
      refine regE_take (i := 19) (v := ?_) rfl (by kernel_rfl) (by kernel_rfl) (by kernel_rfl) (fun _ _ _ h => h) (by rfl) ?_ ?_
      rotate_left
      · intro W hW; go_simp; try with_reducible rfl
      simp only [Act.put, List.setIfInBounds_toArray, List.set_cons_zero, List.set_cons_succ]
      refine regE_take (i := 20) (v := ?_) rfl (by kernel_rfl) (by kernel_rfl) (by kernel_rfl) (fun _ _ _ h => h) (by rfl) ?_ ?_
      rotate_left
      · intro W hW; go_simp; try with_reducible rfl
      simp only [Act.put, List.setIfInBounds_toArray, List.set_cons_zero, List.set_cons_succ]
      refine regE_take (i := 21) (v := ?_) rfl (by kernel_rfl) (by kernel_rfl) (by kernel_rfl) (fun _ _ _ h => h) (by rfl) ?_ ?_
      rotate_left
      · intro W hW; go_simp; try with_reducible rfl
      simp only [Act.put, List.setIfInBounds_toArray, List.set_cons_zero, List.set_cons_succ]
      refine regE_take (i := 22) (v := ?_) rfl (by kernel_rfl) (by kernel_rfl) (by kernel_rfl) (fun _ _ _ h => h) (by rfl) ?_ ?_
      rotate_left
      · intro W hW; go_simp; try with_reducible rfl
      simp only [Act.put, List.setIfInBounds_toArray, List.set_cons_zero, List.set_cons_succ]
      refine regE_take (i := 24) (v := ?_) rfl (by kernel_rfl) (by kernel_rfl) (by kernel_rfl) (fun _ _ _ h => h) (by rfl) ?_ ?_
      rotate_left
      · intro W hW; go_simp; try with_reducible rfl
      simp only [Act.put, List.setIfInBounds_toArray, List.set_cons_zero, List.set_cons_succ]
      refine regE_do (i := 23) rfl (by kernel_rfl) (fun K hK => ?_)
      rw [if_pos (by rfl)]
      go_simp
      refine (S9.out _).mono ?_
      rintro e wr5 ⟨rfl, hXX⟩
      refine hK.out _ _ (hR.trans hXX) ?_
      clear hK K
      replace hR := hR.trans hXX
      clear hXX
      try simp only [Act.put, List.setIfInBounds_toArray, List.set_cons_zero, List.set_cons_succ]
      refine regE_do (i := 25) rfl (by kernel_rfl) (fun K hK => ?_)
      rw [if_pos (by rfl)]
      go_simp
      refine (S10.out _).mono ?_
      rintro e wr6 ⟨rfl, hXX⟩
      refine hK.out _ _ (hR.trans hXX) ?_
      clear hK K
      replace hR := hR.trans hXX
      clear hXX
      try simp only [Act.put, List.setIfInBounds_toArray, List.set_cons_zero, List.set_cons_succ]
      refine regE_do (i := 26) rfl (by kernel_rfl) (fun K hK => ?_)
      rw [if_pos (by rfl)]
      go_simp
      refine (same17 (ox : Int) om none 0 0 [] (ox : Int) om none 0 0 [] _ (Els.nil _) (Els.nil _) true (by simp)).mono ?_
      rintro e wr7 ⟨rfl, hXX⟩
      refine hK.out _ _ (hR.trans hXX) ?_
      clear hK K
      replace hR := hR.trans hXX
      clear hXX
      try simp only [Act.put, List.setIfInBounds_toArray, List.set_cons_zero, List.set_cons_succ]
      refine regE_take (i := 27) (v := ?_) rfl (by kernel_rfl) (by kernel_rfl) (by kernel_rfl) (fun _ _ _ h => h) (by rfl) ?_ ?_
      rotate_left
      · intro W hW; go_simp; try with_reducible rfl
      simp only [Act.put, List.setIfInBounds_toArray, List.set_cons_zero, List.set_cons_succ]
      refine regE_take (i := 28) (v := ?_) rfl (by kernel_rfl) (by kernel_rfl) (by kernel_rfl) (fun _ _ _ h => h) (by rfl) ?_ ?_
      rotate_left
      · intro W hW; go_simp; try with_reducible rfl
      simp only [Act.put, List.setIfInBounds_toArray, List.set_cons_zero, List.set_cons_succ]
      refine regE_take (i := 29) (v := ?_) rfl (by kernel_rfl) (by kernel_rfl) (by kernel_rfl) (fun _ _ _ h => h) (by rfl) ?_ ?_
      rotate_left
      · intro W hW; obtain ⟨⟨u0, u1, u2⟩, _, _⟩ := (hbx.below hW hbx.lt).three; go_simp; try with_reducible rfl
      simp only [Act.put, List.setIfInBounds_toArray, List.set_cons_zero, List.set_cons_succ]
      refine regE_take (i := 31) (v := ?_) rfl (by kernel_rfl) (by kernel_rfl) (by kernel_rfl) (fun _ _ _ h => h) (by rfl) ?_ ?_
      rotate_left
      · intro W hW; obtain ⟨⟨u0, u1, u2⟩, _, _⟩ := (hbx.below hW hbx.lt).three; go_simp; try with_reducible rfl
      simp only [Act.put, List.setIfInBounds_toArray, List.set_cons_zero, List.set_cons_succ]
      refine regE_do (i := 30) rfl (by kernel_rfl) (fun K hK => ?_)
      rw [if_pos (by rfl)]
      go_simp
      refine (S11.out _).mono ?_
      rintro e wr8 ⟨rfl, hXX⟩
      refine hK.out _ _ (hR.trans hXX) ?_
      clear hK K
      replace hR := hR.trans hXX
      clear hXX
      try simp only [Act.put, List.setIfInBounds_toArray, List.set_cons_zero, List.set_cons_succ]
      refine regE_do (i := 32) rfl (by kernel_rfl) (fun K hK => ?_)
      rw [if_pos (by rfl)]
      go_simp
      refine (S12.out _).mono ?_
      rintro e wr9 ⟨rfl, hXX⟩
      refine hK.out _ _ (hR.trans hXX) ?_
      clear hK K
      replace hR := hR.trans hXX
      clear hXX
      try simp only [Act.put, List.setIfInBounds_toArray, List.set_cons_zero, List.set_cons_succ]
      refine regE_take (i := 33) (v := ?_) rfl (by kernel_rfl) (by kernel_rfl) (by kernel_rfl) (fun _ _ _ h => h) (by rfl) ?_ ?_
      rotate_left
      · intro W hW; go_simp; try with_reducible rfl
      simp only [Act.put, List.setIfInBounds_toArray, List.set_cons_zero, List.set_cons_succ]
      refine regE_take (i := 34) (v := ?_) rfl (by kernel_rfl) (by kernel_rfl) (by kernel_rfl) (fun _ _ _ h => h) (by rfl) ?_ ?_
      rotate_left
      · intro W hW; go_simp; try with_reducible rfl
      simp only [Act.put, List.setIfInBounds_toArray, List.set_cons_zero, List.set_cons_succ]
      refine regE_take (i := 35) (v := ?_) rfl (by kernel_rfl) (by kernel_rfl) (by kernel_rfl) (fun _ _ _ h => h) (by rfl) ?_ ?_
      rotate_left
      · intro W hW; go_simp; try with_reducible rfl
      simp only [Act.put, List.setIfInBounds_toArray, List.set_cons_zero, List.set_cons_succ]
      refine regE_done (by kernel_rfl) ?_
      go_wp2_with fail
      go_ret
      exact ⟨rfl, hE.trans hR⟩
    · obtain ⟨eN0, rfl, ex0⟩ := HY1.out rfl
      have hd := of_decide_eq_true HR.out
      obtain ⟨k, rfl⟩ := Int.eq_ofNat_of_zero_le hd.1
      rw [Int.toNat_natCast] at ex0
      have S4 := hide (fun W hh => S3.out W hh k rfl HR.out y ex0.symm)
      clear HY1 HN1 S3 HR hd ex0 eN0
      go_upto_region 8 with fail
      refine regE_start (by kernel_rfl) ?_
      have hR := (Ext.refl w3).drew
      generalize hgw : (w3).drew = wr0 at *
      clear hgw
      refine regE_take (i := 0) (v := ?_) rfl (by kernel_rfl) (by kernel_rfl) (by kernel_rfl) (fun _ _ _ h => h) (by rfl) ?_ ?_
      rotate_left
      · intro W hW; go_simp; try with_reducible rfl
      simp only [Act.put, List.setIfInBounds_toArray, List.set_cons_zero, List.set_cons_succ]
      refine regE_take (i := 1) (v := ?_) rfl (by kernel_rfl) (by kernel_rfl) (by kernel_rfl) (fun _ _ _ h => h) (by rfl) ?_ ?_
      rotate_left
      · intro W hW; go_simp; try with_reducible rfl
      simp only [Act.put, List.setIfInBounds_toArray, List.set_cons_zero, List.set_cons_succ]
      refine regE_take (i := 2) (v := ?_) rfl (by kernel_rfl) (by kernel_rfl) (by kernel_rfl) (fun _ _ _ h => h) (by rfl) ?_ ?_
      rotate_left
      · intro W hW; go_simp; try with_reducible rfl
      simp only [Act.put, List.setIfInBounds_toArray, List.set_cons_zero, List.set_cons_succ]
      refine regE_take (i := 3) (v := ?_) rfl (by kernel_rfl) (by kernel_rfl) (by kernel_rfl) (fun _ _ _ h => h) (by rfl) ?_ ?_
      rotate_left
      · intro W hW; go_simp; try with_reducible rfl
      simp only [Act.put, List.setIfInBounds_toArray, List.set_cons_zero, List.set_cons_succ]
      refine regE_take (i := 4) (v := ?_) rfl (by kernel_rfl) (by kernel_rfl) (by kernel_rfl) (fun _ _ _ h => h) (by rfl) ?_ ?_
      rotate_left
      · intro W hW; have s1 := run_str (hX.ext hW); go_simp; try with_reducible rfl
      simp only [Act.put, List.setIfInBounds_toArray, List.set_cons_zero, List.set_cons_succ]
      refine regE_take (i := 5) (v := ?_) rfl (by kernel_rfl) (by kernel_rfl) (by kernel_rfl) (fun _ _ _ h => h) (by rfl) ?_ ?_
      rotate_left
      · intro W hW; obtain ⟨⟨u0, u1, u2⟩, _, _⟩ := (hbx.below hW hbx.lt).three; go_simp; try with_reducible rfl
      simp only [Act.put, List.setIfInBounds_toArray, List.set_cons_zero, List.set_cons_succ]
      refine regE_do (i := 6) rfl (by kernel_rfl) (fun K hK => ?_)
      rw [if_pos (by rfl)]
      go_simp
      refine (S4.out _ (hh.ext hR)).mono ?_
      rintro e wr1 ⟨Aw, cw, rfl, hW2, hXX⟩
      refine hK.out _ _ (hR.trans hXX) ?_
      clear hK K
      refine regE_raise ?_
      replace hR := hR.trans hXX
      try simp only [Act.put, List.setIfInBounds_toArray, List.set_cons_zero, List.set_cons_succ]
      refine regE_take (i := 7) (v := ?_) rfl (by kernel_rfl) (by kernel_rfl) (by kernel_rfl) (fun _ _ _ h => h) (by rfl) ?_ ?_
      rotate_left
      · intro W hW; have s1 := run_str (hW2.ext hW); go_simp; try with_reducible rfl
      simp only [Act.put, List.setIfInBounds_toArray, List.set_cons_zero, List.set_cons_succ]
      refine regE_take (i := 8) (v := ?_) rfl (by kernel_rfl) (by kernel_rfl) (by kernel_rfl) (fun _ _ _ h => h) (by rfl) ?_ ?_
      rotate_left
      · intro W hW; go_simp; try with_reducible rfl
      simp only [Act.put, List.setIfInBounds_toArray, List.set_cons_zero, List.set_cons_succ]
      refine regE_take (i := 9) (v := ?_) rfl (by kernel_rfl) (by kernel_rfl) (by kernel_rfl) (fun _ _ _ h => h) (by rfl) ?_ ?_
      rotate_left
      · intro W hW; go_simp; try with_reducible rfl
      simp only [Act.put, List.setIfInBounds_toArray, List.set_cons_zero, List.set_cons_succ]
      refine regE_done (by kernel_rfl) ?_
      replace hE := hE.trans hR
      replace hh := hh.ext hR
      replace hb := hb.ext hR
      replace hbx := hbx.below hR hbx.lt
      clear hR S4 hW2 hX
      go_wp2_with fail
      refine (S5.out _ hb).mono ?_
      rintro e wa ⟨Ap, cp, rfl, hP, hE2⟩
      have hbp := Blk.new wa 84 #[.int .i64 (X : Int), .int .u32 (M : Int), .slice Ap N cp]
      have hE3 := hE2.alloc (.cells #[.int .i64 (X : Int), .int .u32 (M : Int), .slice Ap N cp] 84)
      replace hP := hP.alloc (.cells #[.int .i64 (X : Int), .int .u32 (M : Int), .slice Ap N cp] 84)
      replace hE := hE.trans hE3
      replace hb := hb.ext hE3
      replace hbx := hbx.below hE3 hbx.lt
      clear hE3 S5 hE2
      go_wp2_with fail
      refine (S6.out _ hb).mono ?_
      rintro e wb ⟨Aq, cq, rfl, hQ, hE2⟩
      have hbq := Blk.new wb 84 #[.int .i64 (X : Int), .int .u32 (M : Int), .slice Aq N cq]
      have hE3 := hE2.alloc (.cells #[.int .i64 (X : Int), .int .u32 (M : Int), .slice Aq N cq] 84)
      replace hQ := hQ.alloc (.cells #[.int .i64 (X : Int), .int .u32 (M : Int), .slice Aq N cq] 84)
      replace hE := hE.trans hE3
      replace hb := hb.ext hE3
      replace hP := hP.ext hE3
      replace hbx := hbx.below hE3 hbx.lt
      replace hbp := hbp.below hE3 hbp.lt
      clear hE3 S6 hE2
      go_upto_region 14 with fail
      obtain ⟨gp, hgp⟩ : ∃ g, wa.heap.size = g := ⟨_, rfl⟩
      obtain ⟨gq, hgq⟩ : ∃ g, wb.heap.size = g := ⟨_, rfl⟩
      obtain ⟨g0, hg0⟩ : ∃ g, w.heap.size = g := ⟨_, rfl⟩
      rw [hgp] at hbp
      rw [hgq] at hbq
      rw [hg0] at hbx
      rw [hgp, hgq, hg0]
      generalize hgw : wb.alloc (.cells #[.int .i64 (X : Int), .int .u32 (M : Int), .slice Aq N cq] 84) = wc at *
      clear hgw hgp hgq hg0
      refine regE_start (by kernel_rfl) ?_
      have hR := (Ext.refl wc).drew
      generalize hgw : (wc).drew = wr0 at *
      clear hgw
      refine regE_take (i := 0) (v := ?_) rfl (by kernel_rfl) (by kernel_rfl) (by kernel_rfl) (fun _ _ _ h => h) (by rfl) ?_ ?_
      rotate_left
      · intro W hW; obtain ⟨⟨u0, u1, u2⟩, _, _⟩ := (hbx.below hW hbx.lt).three; go_simp; try with_reducible rfl
      simp only [Act.put, List.setIfInBounds_toArray, List.set_cons_zero, List.set_cons_succ]
      refine regE_take (i := 2) (v := ?_) rfl (by kernel_rfl) (by kernel_rfl) (by kernel_rfl) (fun _ _ _ h => h) (by rfl) ?_ ?_
      rotate_left
      · intro W hW; go_simp; try with_reducible rfl
      simp only [Act.put, List.setIfInBounds_toArray, List.set_cons_zero, List.set_cons_succ]
      refine regE_do (i := 1) rfl (by kernel_rfl) (fun K hK => ?_)
      rw [if_pos (by rfl)]
      go_simp
      refine (S1.out _).mono ?_
      rintro e wr1 ⟨rfl, hXX⟩
      refine hK.out _ _ (hR.trans hXX) ?_
      clear hK K
      replace hR := hR.trans hXX
      clear hXX
      try simp only [Act.put, List.setIfInBounds_toArray, List.set_cons_zero, List.set_cons_succ]
      refine regE_take (i := 3) (v := ?_) rfl (by kernel_rfl) (by kernel_rfl) (by kernel_rfl) (fun _ _ _ h => h) (by rfl) ?_ ?_
      rotate_left
      · intro W hW; go_simp; try with_reducible rfl
      simp only [Act.put, List.setIfInBounds_toArray, List.set_cons_zero, List.set_cons_succ]
      refine regE_take (i := 4) (v := ?_) rfl (by kernel_rfl) (by kernel_rfl) (by kernel_rfl) (fun _ _ _ h => h) (by rfl) ?_ ?_
      rotate_left
      · intro W hW; go_simp; try with_reducible rfl
      simp only [Act.put, List.setIfInBounds_toArray, List.set_cons_zero, List.set_cons_succ]
      refine regE_take (i := 5) (v := ?_) rfl (by kernel_rfl) (by kernel_rfl) (by kernel_rfl) (fun _ _ _ h => h) (by rfl) ?_ ?_
      rotate_left
      · intro W hW; go_simp; try with_reducible rfl
      simp only [Act.put, List.setIfInBounds_toArray, List.set_cons_zero, List.set_cons_succ]
      refine regE_take (i := 6) (v := ?_) rfl (by kernel_rfl) (by kernel_rfl) (by kernel_rfl) (fun _ _ _ h => h) (by rfl) ?_ ?_
      rotate_left
      · intro W hW; go_simp; try with_reducible rfl
      simp only [Act.put, List.setIfInBounds_toArray, List.set_cons_zero, List.set_cons_succ]
      refine regE_take (i := 7) (v := ?_) rfl (by kernel_rfl) (by kernel_rfl) (by kernel_rfl) (fun _ _ _ h => h) (by rfl) ?_ ?_
      rotate_left
      · intro W hW; go_simp; try with_reducible rfl
      simp only [Act.put, List.setIfInBounds_toArray, List.set_cons_zero, List.set_cons_succ]
      refine regE_take (i := 8) (v := ?_) rfl (by kernel_rfl) (by kernel_rfl) (by kernel_rfl) (fun _ _ _ h => h) (by rfl) ?_ ?_
      rotate_left
      · intro W hW; go_simp; try with_reducible rfl
      simp only [Act.put, List.setIfInBounds_toArray, List.set_cons_zero, List.set_cons_succ]
      refine regE_take (i := 9) (v := ?_) rfl (by kernel_rfl) (by kernel_rfl) (by kernel_rfl) (fun _ _ _ h => h) (by rfl) ?_ ?_
      rotate_left
      · intro W hW; go_simp; try with_reducible rfl
      simp only [Act.put, List.setIfInBounds_toArray, List.set_cons_zero, List.set_cons_succ]
      refine regE_take (i := 10) (v := ?_) rfl (by kernel_rfl) (by kernel_rfl) (by kernel_rfl) (fun _ _ _ h => h) (by rfl) ?_ ?_
      rotate_left
      · intro W hW; obtain ⟨⟨u0, u1, u2⟩, _, _⟩ := (hbp.below hW hbp.lt).three; go_simp; try with_reducible rfl
      simp only [Act.put, List.setIfInBounds_toArray, List.set_cons_zero, List.set_cons_succ]
      refine regE_take (i := 11) (v := ?_) rfl (by kernel_rfl) (by kernel_rfl) (by kernel_rfl) (fun _ _ _ h => h) (by rfl) ?_ ?_
      rotate_left
      · intro W hW; obtain ⟨⟨u0, u1, u2⟩, _, _⟩ := (hbq.below hW hbq.lt).three; go_simp; try with_reducible rfl
      simp only [Act.put, List.setIfInBounds_toArray, List.set_cons_zero, List.set_cons_succ]
      refine regE_do (i := 12) rfl (by kernel_rfl) (fun K hK => ?_)
      rw [if_pos (by rfl)]
      go_simp
      refine (same17 (X : Int) M _ _ _ L (X : Int) M _ _ _ L _ (hP.ext hR) (hQ.ext hR) true (by simp)).mono ?_
      rintro e wr2 ⟨rfl, hXX⟩
      refine hK.out _ _ (hR.trans hXX) ?_
      clear hK K
      replace hR := hR.trans hXX
      clear hXX
      try simp only [Act.put, List.setIfInBounds_toArray, List.set_cons_zero, List.set_cons_succ]
      refine regE_take (i := 13) (v := ?_) rfl (by kernel_rfl) (by kernel_rfl) (by kernel_rfl) (fun _ _ _ h => h) (by rfl) ?_ ?_
      rotate_left
      · intro W hW; go_simp; try with_reducible rfl
      simp only [Act.put, List.setIfInBounds_toArray, List.set_cons_zero, List.set_cons_succ]
      refine regE_take (i := 14) (v := ?_) rfl (by kernel_rfl) (by kernel_rfl) (by kernel_rfl) (fun _ _ _ h => h) (by rfl) ?_ ?_
      rotate_left
      · intro W hW; go_simp; try with_reducible rfl
      simp only [Act.put, List.setIfInBounds_toArray, List.set_cons_zero, List.set_cons_succ]
      refine regE_take (i := 15) (v := ?_) rfl (by kernel_rfl) (by kernel_rfl) (by kernel_rfl) (fun _ _ _ h => h) (by rfl) ?_ ?_
      rotate_left
      · intro W hW; go_simp; try with_reducible rfl
      simp only [Act.put, List.setIfInBounds_toArray, List.set_cons_zero, List.set_cons_succ]
      refine regE_take (i := 17) (v := ?_) rfl (by kernel_rfl) (by kernel_rfl) (by kernel_rfl) (fun _ _ _ h => h) (by rfl) ?_ ?_
      rotate_left
      · intro W hW; go_simp; try with_reducible rfl
      simp only [Act.put, List.setIfInBounds_toArray, List.set_cons_zero, List.set_cons_succ]
      refine regE_do (i := 16) rfl (by kernel_rfl) (fun K hK => ?_)
      rw [if_pos (by rfl)]
      go_simp
      refine (S7.out _ (hb.ext hR)).mono ?_
      rintro e wr3 ⟨rfl, hXX⟩
      refine hK.out _ _ (hR.trans hXX) ?_
      clear hK K
      replace hR := hR.trans hXX
      clear hXX
      try simp only [Act.put, List.setIfInBounds_toArray, List.set_cons_zero, List.set_cons_succ]
      refine regE_do (i := 18) rfl (by kernel_rfl) (fun K hK => ?_)
      rw [if_pos (by rfl)]
      go_simp
      refine (S8.out _ (hb.ext hR)).mono ?_
      rintro e wr4 ⟨rfl, hXX⟩
      refine hK.out _ _ (hR.trans hXX) ?_
      clear hK K
      replace hR := hR.trans hXX
      clear hXX
      try simp only [Act.put, List.setIfInBounds_toArray, List.set_cons_zero, List.set_cons_succ]
      refine regE_take (i := 19) (v := ?_) rfl (by kernel_rfl) (by kernel_rfl) (by kernel_rfl) (fun _ _ _ h => h) (by rfl) ?_ ?_
      rotate_left
      · intro W hW; go_simp; try with_reducible rfl
      simp only [Act.put, List.setIfInBounds_toArray, List.set_cons_zero, List.set_cons_succ]
      refine regE_take (i := 20) (v := ?_) rfl (by kernel_rfl) (by kernel_rfl) (by kernel_rfl) (fun _ _ _ h => h) (by rfl) ?_ ?_
      rotate_left
      · intro W hW; go_simp; try with_reducible rfl
      simp only [Act.put, List.setIfInBounds_toArray, List.set_cons_zero, List.set_cons_succ]
      refine regE_take (i := 21) (v := ?_) rfl (by kernel_rfl) (by kernel_rfl) (by kernel_rfl) (fun _ _ _ h => h) (by rfl) ?_ ?_
      rotate_left
      · intro W hW; go_simp; try with_reducible rfl
      simp only [Act.put, List.setIfInBounds_toArray, List.set_cons_zero, List.set_cons_succ]
      refine regE_take (i := 22) (v := ?_) rfl (by kernel_rfl) (by kernel_rfl) (by kernel_rfl) (fun _ _ _ h => h) (by rfl) ?_ ?_
      rotate_left
      · intro W hW; go_simp; try with_reducible rfl
      simp only [Act.put, List.setIfInBounds_toArray, List.set_cons_zero, List.set_cons_succ]
      refine regE_take (i := 24) (v := ?_) rfl (by kernel_rfl) (by kernel_rfl) (by kernel_rfl) (fun _ _ _ h => h) (by rfl) ?_ ?_
      rotate_left
      · intro W hW; go_simp; try with_reducible rfl
      simp only [Act.put, List.setIfInBounds_toArray, List.set_cons_zero, List.set_cons_succ]
      refine regE_do (i := 23) rfl (by kernel_rfl) (fun K hK => ?_)
      rw [if_pos (by rfl)]
      go_simp
      refine (S9.out _).mono ?_
      rintro e wr5 ⟨rfl, hXX⟩
      refine hK.out _ _ (hR.trans hXX) ?_
      clear hK K
      replace hR := hR.trans hXX
      clear hXX
      try simp only [Act.put, List.setIfInBounds_toArray, List.set_cons_zero, List.set_cons_succ]
      refine regE_do (i := 25) rfl (by kernel_rfl) (fun K hK => ?_)
      rw [if_pos (by rfl)]
      go_simp
      refine (S10.out _).mono ?_
      rintro e wr6 ⟨rfl, hXX⟩
      refine hK.out _ _ (hR.trans hXX) ?_
      clear hK K
      replace hR := hR.trans hXX
      clear hXX
      try simp only [Act.put, List.setIfInBounds_toArray, List.set_cons_zero, List.set_cons_succ]
      refine regE_do (i := 26) rfl (by kernel_rfl) (fun K hK => ?_)
      rw [if_pos (by rfl)]
      go_simp
      refine (same17 (ox : Int) om none 0 0 [] (ox : Int) om none 0 0 [] _ (Els.nil _) (Els.nil _) true (by simp)).mono ?_
      rintro e wr7 ⟨rfl, hXX⟩
      refine hK.out _ _ (hR.trans hXX) ?_
      clear hK K
      replace hR := hR.trans hXX
      clear hXX
      try simp only [Act.put, List.setIfInBounds_toArray, List.set_cons_zero, List.set_cons_succ]
      refine regE_take (i := 27) (v := ?_) rfl (by kernel_rfl) (by kernel_rfl) (by kernel_rfl) (fun _ _ _ h => h) (by rfl) ?_ ?_
      rotate_left
      · intro W hW; go_simp; try with_reducible rfl
      simp only [Act.put, List.setIfInBounds_toArray, List.set_cons_zero, List.set_cons_succ]
      refine regE_take (i := 28) (v := ?_) rfl (by kernel_rfl) (by kernel_rfl) (by kernel_rfl) (fun _ _ _ h => h) (by rfl) ?_ ?_
      rotate_left
      · intro W hW; go_simp; try with_reducible rfl
      simp only [Act.put, List.setIfInBounds_toArray, List.set_cons_zero, List.set_cons_succ]
      refine regE_take (i := 29) (v := ?_) rfl (by kernel_rfl) (by kernel_rfl) (by kernel_rfl) (fun _ _ _ h => h) (by rfl) ?_ ?_
      rotate_left
      · intro W hW; obtain ⟨⟨u0, u1, u2⟩, _, _⟩ := (hbx.below hW hbx.lt).three; go_simp; try with_reducible rfl
      simp only [Act.put, List.setIfInBounds_toArray, List.set_cons_zero, List.set_cons_succ]
      refine regE_take (i := 31) (v := ?_) rfl (by kernel_rfl) (by kernel_rfl) (by kernel_rfl) (fun _ _ _ h => h) (by rfl) ?_ ?_
      rotate_left
      · intro W hW; obtain ⟨⟨u0, u1, u2⟩, _, _⟩ := (hbx.below hW hbx.lt).three; go_simp; try with_reducible rfl
      simp only [Act.put, List.setIfInBounds_toArray, List.set_cons_zero, List.set_cons_succ]
      refine regE_do (i := 30) rfl (by kernel_rfl) (fun K hK => ?_)
      rw [if_pos (by rfl)]
      go_simp
      refine (S11.out _).mono ?_
      rintro e wr8 ⟨rfl, hXX⟩
      refine hK.out _ _ (hR.trans hXX) ?_
      clear hK K
      replace hR := hR.trans hXX
      clear hXX
      try simp only [Act.put, List.setIfInBounds_toArray, List.set_cons_zero, List.set_cons_succ]
      refine regE_do (i := 32) rfl (by kernel_rfl) (fun K hK => ?_)
      rw [if_pos (by rfl)]
      go_simp
      refine (S12.out _).mono ?_
      rintro e wr9 ⟨rfl, hXX⟩
      refine hK.out _ _ (hR.trans hXX) ?_
      clear hK K
      replace hR := hR.trans hXX
      clear hXX
      try simp only [Act.put, List.setIfInBounds_toArray, List.set_cons_zero, List.set_cons_succ]
      refine regE_take (i := 33) (v := ?_) rfl (by kernel_rfl) (by kernel_rfl) (by kernel_rfl) (fun _ _ _ h => h) (by rfl) ?_ ?_
      rotate_left
      · intro W hW; go_simp; try with_reducible rfl
      simp only [Act.put, List.setIfInBounds_toArray, List.set_cons_zero, List.set_cons_succ]
      refine regE_take (i := 34) (v := ?_) rfl (by kernel_rfl) (by kernel_rfl) (by kernel_rfl) (fun _ _ _ h => h) (by rfl) ?_ ?_
      rotate_left
      · intro W hW; go_simp; try with_reducible rfl
      simp only [Act.put, List.setIfInBounds_toArray, List.set_cons_zero, List.set_cons_succ]
      refine regE_take (i := 35) (v := ?_) rfl (by kernel_rfl) (by kernel_rfl) (by kernel_rfl) (fun _ _ _ h => h) (by rfl) ?_ ?_
      rotate_left
      · intro W hW; go_simp; try with_reducible rfl
      simp only [Act.put, List.setIfInBounds_toArray, List.set_cons_zero, List.set_cons_succ]
      refine regE_done (by kernel_rfl) ?_
      go_wp2_with fail
      go_ret
      exact ⟨rfl, hE.trans hR⟩
end Go.Proofs.Ythepndimhiieiaa

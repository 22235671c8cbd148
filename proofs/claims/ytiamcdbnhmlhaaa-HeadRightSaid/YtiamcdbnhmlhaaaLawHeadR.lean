/- HeadRight: the walk. -/
import Derived.Test.YtiamcdbnhmlhaaaHeadAw
namespace Go.Proofs.Ytiamcdbnhmlhaaa
open Go.RowKit
set_option maxRecDepth 100000 in
set_option maxHeartbeats 2000000 in
theorem law_headright (h : Hd) (A : Option Addr) (n c : Nat) (A2 : Option Addr) (n2 c2 : Nat) (b : List UInt8) (w : World) (hh : Els e32 w A n c h.csrc) (hb : Bytes w A2 n2 c2 b) :
    Calls Try.prog 8 #[.agg #[.bool h.pad, .bool h.ext, .bool h.mark, .int .i64 h.typ, .int .u16 (h.seq.toNat : Int), .int .u32 (h.time.toNat : Int), .int .u32 (h.ssrc.toNat : Int), .slice A n c], .slice A2 n2 c2] w fun e w' => e = .returned (.bool true) ∧ Ext w w' := by
  obtain ⟨y, ey⟩ : ∃ y, hH b = y := ⟨_, rfl⟩
  obtain ⟨N, eN⟩ : ∃ y, hN b = y := ⟨_, rfl⟩
  obtain ⟨E, eE⟩ : ∃ y, hE b = y := ⟨_, rfl⟩
  have S5 := hide (fun W hb => hread_B A2 n2 c2 b W hb y ey N eN E eE)
  have S6 := hide (fun W hb => rhread_B A2 n2 c2 b W hb y ey N eN E eE)
  clear ey eN eE
  have hbx := Blk.new w 54 #[.bool h.pad, .bool h.ext, .bool h.mark, .int .i64 h.typ, .int .u16 (h.seq.toNat : Int), .int .u32 (h.time.toNat : Int), .int .u32 (h.ssrc.toNat : Int), .slice A n c]
  have hE := (Ext.refl w).alloc (.cells #[.bool h.pad, .bool h.ext, .bool h.mark, .int .i64 h.typ, .int .u16 (h.seq.toNat : Int), .int .u32 (h.time.toNat : Int), .int .u32 (h.ssrc.toNat : Int), .slice A n c] 54)
  replace hh := hh.ext hE
  replace hb := hb.ext hE
  by_cases hbig : 3000 < n2 ∨ 99 < n
  · by_cases k1 : 3000 < n2
    all_goals
      go_enter Try.func8, Try.ntmps8
      go_wp2_with fail
      refine (awake05 _).mono ?_
      rintro e w1 ⟨rfl, hE2⟩
      replace hbx := hbx.below hE2 hbx.lt
      obtain ⟨⟨u0, u1, u2, u3, u4, u5, u6, u7⟩, _, _⟩ := hbx.eight
      have k2 : 3000 < n2 ∨ (99 : Int) < (n : Int) := by omega
      first
        | (have k3 : (3000 : Int) < (n2 : Int) := by omega
           go_wp2_with fail
           go_ret
           exact ⟨rfl, hE.trans hE2⟩)
        | (have k3 : (99 : Int) < (n : Int) := by omega
           go_wp2_with fail
           go_ret
           exact ⟨rfl, hE.trans hE2⟩)
  · have k1 : ¬ 3000 < n2 := by omega
    have k2 : ¬ 99 < n := by omega
    clear hbig
    obtain ⟨r, hr⟩ : ∃ r, hRight h.typ n = r := ⟨_, rfl⟩
    have S1 := hide (fun W => rhright_B h A n c W r hr)
    have S4 := hide (fun W => hright_B h A n c W r hr)
    have HR := hide hr
    clear hr
    go_enter Try.func8, Try.ntmps8
    go_wp2_with fail
    refine (awake05 _).mono ?_
    rintro e w1 ⟨rfl, hE2⟩
    replace hE := hE.trans hE2
    replace hh := hh.ext hE2
    replace hb := hb.ext hE2
    replace hbx := hbx.below hE2 hbx.lt
    clear hE2
    obtain ⟨⟨u0, u1, u2, u3, u4, u5, u6, u7⟩, _, _⟩ := hbx.eight
    go_wp2_with fail
    refine (S1.out _).mono ?_
    rintro e w2 ⟨rfl, hE2⟩
    clear u0 u1 u2 u3 u4 u5 u6 u7
    replace hE := hE.trans hE2
    replace hh := hh.ext hE2
    replace hb := hb.ext hE2
    replace hbx := hbx.below hE2 hbx.lt
    clear hE2 S1
    obtain ⟨⟨u0, u1, u2, u3, u4, u5, u6, u7⟩, _, _⟩ := hbx.eight
    cases r
    · have S2 := hide (fun W => hwrite_no h A n c W HR.out)
      have S3 := hide (fun W => hsize_any h A n c W false HR.out)
      go_wp2_with fail
      refine (S2.out _).mono ?_
      rintro e w3 ⟨rfl, hE2⟩
      clear u0 u1 u2 u3 u4 u5 u6 u7
      replace hE := hE.trans hE2
      replace hh := hh.ext hE2
      replace hb := hb.ext hE2
      replace hbx := hbx.below hE2 hbx.lt
      clear hE2 S2
      obtain ⟨⟨u0, u1, u2, u3, u4, u5, u6, u7⟩, _, _⟩ := hbx.eight
      go_wp2_with fail
      refine (S3.out _).mono ?_
      rintro e w4 ⟨rfl, hE2⟩
      clear u0 u1 u2 u3 u4 u5 u6 u7
      replace hE := hE.trans hE2
      replace hh := hh.ext hE2
      replace hb := hb.ext hE2
      replace hbx := hbx.below hE2 hbx.lt
      clear hE2 S3
      have hb0 : ((bit false (12 + 4 * n) : Nat) : Int) = 0 := rfl
      obtain ⟨⟨u0, u1, u2, u3, u4, u5, u6, u7⟩, _, _⟩ := hbx.eight
      go_wp2_with fail
      refine (S5.out _ hb).mono ?_
      rintro e wa ⟨Ay, cy, rfl, hY, hE2⟩
      clear u0 u1 u2 u3 u4 u5 u6 u7
      have hby := Blk.new wa 54 #[.bool y.pad, .bool y.ext, .bool y.mark, .int .i64 y.typ, .int .u16 (y.seq.toNat : Int), .int .u32 (y.time.toNat : Int), .int .u32 (y.ssrc.toNat : Int), .slice Ay y.csrc.length cy]
      replace hE := hE.trans hE2
      replace hh := hh.ext hE2
      replace hb := hb.ext hE2
      replace hbx := hbx.below hE2 hbx.lt
      clear hE2 S5
      replace hY := hY.alloc (.cells #[.bool y.pad, .bool y.ext, .bool y.mark, .int .i64 y.typ, .int .u16 (y.seq.toNat : Int), .int .u32 (y.time.toNat : Int), .int .u32 (y.ssrc.toNat : Int), .slice Ay y.csrc.length cy] 54)
      replace hb := hb.alloc (.cells #[.bool y.pad, .bool y.ext, .bool y.mark, .int .i64 y.typ, .int .u16 (y.seq.toNat : Int), .int .u32 (y.time.toNat : Int), .int .u32 (y.ssrc.toNat : Int), .slice Ay y.csrc.length cy] 54)
      replace hbx := hbx.alloc (.cells #[.bool y.pad, .bool y.ext, .bool y.mark, .int .i64 y.typ, .int .u16 (y.seq.toNat : Int), .int .u32 (y.time.toNat : Int), .int .u32 (y.ssrc.toNat : Int), .slice Ay y.csrc.length cy] 54)
      replace hE := hE.alloc (.cells #[.bool y.pad, .bool y.ext, .bool y.mark, .int .i64 y.typ, .int .u16 (y.seq.toNat : Int), .int .u32 (y.time.toNat : Int), .int .u32 (y.ssrc.toNat : Int), .slice Ay y.csrc.length cy] 54)
      go_wp2_with fail
      refine (S6.out _ hb).mono ?_
      rintro e wb ⟨Az, cz, rfl, hZ, hE2⟩
      replace hby := hby.below hE2 hby.lt
      have hbz := Blk.new wb 54 #[.bool y.pad, .bool y.ext, .bool y.mark, .int .i64 y.typ, .int .u16 (y.seq.toNat : Int), .int .u32 (y.time.toNat : Int), .int .u32 (y.ssrc.toNat : Int), .slice Az y.csrc.length cz]
      replace hE := hE.trans hE2
      replace hY := hY.ext hE2
      replace hbx := hbx.below hE2 hbx.lt
      clear hE2 S6 hb
      replace hY := hY.alloc (.cells #[.bool y.pad, .bool y.ext, .bool y.mark, .int .i64 y.typ, .int .u16 (y.seq.toNat : Int), .int .u32 (y.time.toNat : Int), .int .u32 (y.ssrc.toNat : Int), .slice Az y.csrc.length cz] 54)
      replace hZ := hZ.alloc (.cells #[.bool y.pad, .bool y.ext, .bool y.mark, .int .i64 y.typ, .int .u16 (y.seq.toNat : Int), .int .u32 (y.time.toNat : Int), .int .u32 (y.ssrc.toNat : Int), .slice Az y.csrc.length cz] 54)
      replace hby := hby.alloc (.cells #[.bool y.pad, .bool y.ext, .bool y.mark, .int .i64 y.typ, .int .u16 (y.seq.toNat : Int), .int .u32 (y.time.toNat : Int), .int .u32 (y.ssrc.toNat : Int), .slice Az y.csrc.length cz] 54)
      replace hbx := hbx.alloc (.cells #[.bool y.pad, .bool y.ext, .bool y.mark, .int .i64 y.typ, .int .u16 (y.seq.toNat : Int), .int .u32 (y.time.toNat : Int), .int .u32 (y.ssrc.toNat : Int), .slice Az y.csrc.length cz] 54)
      replace hE := hE.alloc (.cells #[.bool y.pad, .bool y.ext, .bool y.mark, .int .i64 y.typ, .int .u16 (y.seq.toNat : Int), .int .u32 (y.time.toNat : Int), .int .u32 (y.ssrc.toNat : Int), .slice Az y.csrc.length cz] 54)
      obtain ⟨⟨u0, u1, u2, u3, u4, u5, u6, u7⟩, _, _⟩ := hbx.eight
      go_wp2_with fail
      refine (S4.out _).mono ?_
      rintro e wc ⟨rfl, hE2⟩
      clear u0 u1 u2 u3 u4 u5 u6 u7
      replace hE := hE.trans hE2
      replace hY := hY.ext hE2
      replace hZ := hZ.ext hE2
      replace hby := hby.below hE2 hby.lt
      replace hbz := hbz.below hE2 hbz.lt
      clear hE2 S4
      obtain ⟨⟨u0, u1, u2, u3, u4, u5, u6, u7⟩, _, _⟩ := hby.eight
      obtain ⟨⟨v0, v1, v2, v3, v4, v5, v6, v7⟩, _, _⟩ := hbz.eight
      go_wp2_with fail
      refine (rsame_any y y _ _ _ _ _ _ _ hY hZ true (hSame_self y)).mono ?_
      rintro e wd ⟨rfl, hE2⟩
      go_wp2_with fail
      go_ret
      exact ⟨rfl, hE.trans hE2⟩
    · obtain ⟨x, ex⟩ : ∃ x, hBytes h = x := ⟨_, rfl⟩
      have S2 := hide (fun W hh => hwrite_B h A c n W hh HR.out x ex)
      have S3 := hide (fun W => hsize_any h A n c W true HR.out)
      have S7 := hide (fun W hh => rhwrite_B h A c n W hh HR.out x ex)
      clear ex
      go_wp2_with fail
      refine (S2.out _ hh).mono ?_
      rintro e w3 ⟨Ax, cx, rfl, hX, hE2⟩
      clear u0 u1 u2 u3 u4 u5 u6 u7
      replace hE := hE.trans hE2
      replace hh := hh.ext hE2
      replace hb := hb.ext hE2
      replace hbx := hbx.below hE2 hbx.lt
      clear hE2 S2
      go_wp2_with fail
      have hbn : ((bit true (12 + 4 * n) : Nat) : Int) = ((12 + 4 * n : Nat) : Int) := rfl
      refine regE_start (by kernel_rfl) ?_
      refine regE_take (i := 0) (v := ?_) rfl (by kernel_rfl) (by kernel_rfl) (by kernel_rfl) (fun _ _ _ h => h) (by rfl) ?_ ?_
      rotate_left
      · intro W hW; go_simp; try with_reducible rfl
      simp only [Act.put, List.setIfInBounds_toArray, List.set_cons_zero, List.set_cons_succ]
      refine regE_take (i := 1) (v := ?_) rfl (by kernel_rfl) (by kernel_rfl) (by kernel_rfl) (fun _ _ _ h => h) (by rfl) ?_ ?_
      rotate_left
      · intro W hW; go_simp; try with_reducible rfl
      simp only [Act.put, List.setIfInBounds_toArray, List.set_cons_zero, List.set_cons_succ]
      refine regE_take (i := 2) (v := ?_) rfl (by kernel_rfl) (by kernel_rfl) (by kernel_rfl) (fun _ _ _ h => h) (by rfl) ?_ ?_
      rotate_left
      · intro W hW; go_simp; try with_reducible rfl
      simp only [Act.put, List.setIfInBounds_toArray, List.set_cons_zero, List.set_cons_succ]
      refine regE_take (i := 3) (v := ?_) rfl (by kernel_rfl) (by kernel_rfl) (by kernel_rfl) (fun _ _ _ h => h) (by rfl) ?_ ?_
      rotate_left
      · intro W hW; go_simp; try with_reducible rfl
      simp only [Act.put, List.setIfInBounds_toArray, List.set_cons_zero, List.set_cons_succ]
      refine regE_take (i := 4) (v := ?_) rfl (by kernel_rfl) (by kernel_rfl) (by kernel_rfl) (fun _ _ _ h => h) (by rfl) ?_ ?_
      rotate_left
      · intro W hW; have s1 := run_str (hX.ext hW); go_simp; try with_reducible rfl
      simp only [Act.put, List.setIfInBounds_toArray, List.set_cons_zero, List.set_cons_succ]
      refine regE_take (i := 5) (v := ?_) rfl (by kernel_rfl) (by kernel_rfl) (by kernel_rfl) (fun _ _ _ h => h) (by rfl) ?_ ?_
      rotate_left
      · intro W hW; obtain ⟨⟨u0, u1, u2, u3, u4, u5, u6, u7⟩, _, _⟩ := (hbx.below hW hbx.lt).eight; go_simp; try with_reducible rfl
      simp only [Act.put, List.setIfInBounds_toArray, List.set_cons_zero, List.set_cons_succ]
      refine regE_do (i := 6) rfl (by kernel_rfl) (fun K hK => ?_)
      rw [if_pos (by rfl)]
      go_simp
      refine (S7.out _ (hh.ext (Ext.refl _).drew)).mono ?_
      rintro e w9 ⟨Ay, cy, rfl, hY, hE2⟩
      refine hK.out _ _ (((Ext.refl _).drew).trans hE2) ?_
      clear hK K
      refine regE_raise ?_
      replace hE2 := ((Ext.refl _).drew).trans hE2
      replace hE := hE.trans hE2
      replace hh := hh.ext hE2
      replace hb := hb.ext hE2
      replace hbx := hbx.below hE2 hbx.lt
      clear hE2 hX
      try simp only [Act.put, List.setIfInBounds_toArray, List.set_cons_zero, List.set_cons_succ]
      refine regE_take (i := 7) (v := ?_) rfl (by kernel_rfl) (by kernel_rfl) (by kernel_rfl) (fun _ _ _ h => h) (by rfl) ?_ ?_
      rotate_left
      · intro W hW; have s1 := run_str (hY.ext hW); go_simp; try with_reducible rfl
      simp only [Act.put, List.setIfInBounds_toArray, List.set_cons_zero, List.set_cons_succ]
      refine regE_take (i := 8) (v := ?_) rfl (by kernel_rfl) (by kernel_rfl) (by kernel_rfl) (fun _ _ _ h => h) (by rfl) ?_ ?_
      rotate_left
      · intro W hW; go_simp; try with_reducible rfl
      simp only [Act.put, List.setIfInBounds_toArray, List.set_cons_zero, List.set_cons_succ]
      refine regE_take (i := 9) (v := ?_) rfl (by kernel_rfl) (by kernel_rfl) (by kernel_rfl) (fun _ _ _ h => h) (by rfl) ?_ ?_
      rotate_left
      · intro W hW; go_simp; try with_reducible rfl
      simp only [Act.put, List.setIfInBounds_toArray, List.set_cons_zero, List.set_cons_succ]
      refine regE_take (i := 10) (v := ?_) rfl (by kernel_rfl) (by kernel_rfl) (by kernel_rfl) (fun _ _ _ h => h) (by rfl) ?_ ?_
      rotate_left
      · intro W hW; go_simp; try with_reducible rfl
      simp only [Act.put, List.setIfInBounds_toArray, List.set_cons_zero, List.set_cons_succ]
      refine regE_take (i := 11) (v := ?_) rfl (by kernel_rfl) (by kernel_rfl) (by kernel_rfl) (fun _ _ _ h => h) (by rfl) ?_ ?_
      rotate_left
      · intro W hW; obtain ⟨⟨u0, u1, u2, u3, u4, u5, u6, u7⟩, _, _⟩ := (hbx.below hW hbx.lt).eight; go_simp; try with_reducible rfl
      simp only [Act.put, List.setIfInBounds_toArray, List.set_cons_zero, List.set_cons_succ]
      refine regE_take (i := 13) (v := ?_) rfl (by kernel_rfl) (by kernel_rfl) (by kernel_rfl) (fun _ _ _ h => h) (by rfl) ?_ ?_
      rotate_left
      · intro W hW; go_simp; try with_reducible rfl
      simp only [Act.put, List.setIfInBounds_toArray, List.set_cons_zero, List.set_cons_succ]
      refine regE_take (i := 14) (v := ?_) rfl (by kernel_rfl) (by kernel_rfl) (by kernel_rfl) (fun _ _ _ h => h) (by rfl) ?_ ?_
      rotate_left
      · intro W hW; go_simp; try with_reducible rfl
      simp only [Act.put, List.setIfInBounds_toArray, List.set_cons_zero, List.set_cons_succ]
      refine regE_do (i := 12) rfl (by kernel_rfl) (fun K hK => ?_)
      rw [if_pos (by rfl)]
      go_simp
      refine (S3.out _).mono ?_
      rintro e w10 ⟨rfl, hE2⟩
      refine hK.out _ _ hE2 ?_
      clear hK K
      replace hE := hE.trans hE2
      replace hh := hh.ext hE2
      replace hb := hb.ext hE2
      replace hbx := hbx.below hE2 hbx.lt
      clear hE2 hY
      try simp only [Act.put, List.setIfInBounds_toArray, List.set_cons_zero, List.set_cons_succ]
      refine regE_take (i := 15) (v := ?_) rfl (by kernel_rfl) (by kernel_rfl) (by kernel_rfl) (fun _ _ _ h => h) (by rfl) ?_ ?_
      rotate_left
      · intro W hW; go_simp; try with_reducible rfl
      simp only [Act.put, List.setIfInBounds_toArray, List.set_cons_zero, List.set_cons_succ]
      refine regE_take (i := 16) (v := ?_) rfl (by kernel_rfl) (by kernel_rfl) (by kernel_rfl) (fun _ _ _ h => h) (by rfl) ?_ ?_
      rotate_left
      · intro W hW; go_simp; try with_reducible rfl
      simp only [Act.put, List.setIfInBounds_toArray, List.set_cons_zero, List.set_cons_succ]
      refine regE_done (by kernel_rfl) ?_
      clear S7 S3
      obtain ⟨⟨u0, u1, u2, u3, u4, u5, u6, u7⟩, _, _⟩ := hbx.eight
      go_wp2_with fail
      refine (S5.out _ hb).mono ?_
      rintro e wa ⟨Ay, cy, rfl, hY, hE2⟩
      clear u0 u1 u2 u3 u4 u5 u6 u7
      have hby := Blk.new wa 54 #[.bool y.pad, .bool y.ext, .bool y.mark, .int .i64 y.typ, .int .u16 (y.seq.toNat : Int), .int .u32 (y.time.toNat : Int), .int .u32 (y.ssrc.toNat : Int), .slice Ay y.csrc.length cy]
      replace hE := hE.trans hE2
      replace hh := hh.ext hE2
      replace hb := hb.ext hE2
      replace hbx := hbx.below hE2 hbx.lt
      clear hE2 S5
      replace hY := hY.alloc (.cells #[.bool y.pad, .bool y.ext, .bool y.mark, .int .i64 y.typ, .int .u16 (y.seq.toNat : Int), .int .u32 (y.time.toNat : Int), .int .u32 (y.ssrc.toNat : Int), .slice Ay y.csrc.length cy] 54)
      replace hb := hb.alloc (.cells #[.bool y.pad, .bool y.ext, .bool y.mark, .int .i64 y.typ, .int .u16 (y.seq.toNat : Int), .int .u32 (y.time.toNat : Int), .int .u32 (y.ssrc.toNat : Int), .slice Ay y.csrc.length cy] 54)
      replace hbx := hbx.alloc (.cells #[.bool y.pad, .bool y.ext, .bool y.mark, .int .i64 y.typ, .int .u16 (y.seq.toNat : Int), .int .u32 (y.time.toNat : Int), .int .u32 (y.ssrc.toNat : Int), .slice Ay y.csrc.length cy] 54)
      replace hE := hE.alloc (.cells #[.bool y.pad, .bool y.ext, .bool y.mark, .int .i64 y.typ, .int .u16 (y.seq.toNat : Int), .int .u32 (y.time.toNat : Int), .int .u32 (y.ssrc.toNat : Int), .slice Ay y.csrc.length cy] 54)
      go_wp2_with fail
      refine (S6.out _ hb).mono ?_
      rintro e wb ⟨Az, cz, rfl, hZ, hE2⟩
      replace hby := hby.below hE2 hby.lt
      have hbz := Blk.new wb 54 #[.bool y.pad, .bool y.ext, .bool y.mark, .int .i64 y.typ, .int .u16 (y.seq.toNat : Int), .int .u32 (y.time.toNat : Int), .int .u32 (y.ssrc.toNat : Int), .slice Az y.csrc.length cz]
      replace hE := hE.trans hE2
      replace hY := hY.ext hE2
      replace hbx := hbx.below hE2 hbx.lt
      clear hE2 S6 hb
      replace hY := hY.alloc (.cells #[.bool y.pad, .bool y.ext, .bool y.mark, .int .i64 y.typ, .int .u16 (y.seq.toNat : Int), .int .u32 (y.time.toNat : Int), .int .u32 (y.ssrc.toNat : Int), .slice Az y.csrc.length cz] 54)
      replace hZ := hZ.alloc (.cells #[.bool y.pad, .bool y.ext, .bool y.mark, .int .i64 y.typ, .int .u16 (y.seq.toNat : Int), .int .u32 (y.time.toNat : Int), .int .u32 (y.ssrc.toNat : Int), .slice Az y.csrc.length cz] 54)
      replace hby := hby.alloc (.cells #[.bool y.pad, .bool y.ext, .bool y.mark, .int .i64 y.typ, .int .u16 (y.seq.toNat : Int), .int .u32 (y.time.toNat : Int), .int .u32 (y.ssrc.toNat : Int), .slice Az y.csrc.length cz] 54)
      replace hbx := hbx.alloc (.cells #[.bool y.pad, .bool y.ext, .bool y.mark, .int .i64 y.typ, .int .u16 (y.seq.toNat : Int), .int .u32 (y.time.toNat : Int), .int .u32 (y.ssrc.toNat : Int), .slice Az y.csrc.length cz] 54)
      replace hE := hE.alloc (.cells #[.bool y.pad, .bool y.ext, .bool y.mark, .int .i64 y.typ, .int .u16 (y.seq.toNat : Int), .int .u32 (y.time.toNat : Int), .int .u32 (y.ssrc.toNat : Int), .slice Az y.csrc.length cz] 54)
      obtain ⟨⟨u0, u1, u2, u3, u4, u5, u6, u7⟩, _, _⟩ := hbx.eight
      go_wp2_with fail
      refine (S4.out _).mono ?_
      rintro e wc ⟨rfl, hE2⟩
      clear u0 u1 u2 u3 u4 u5 u6 u7
      replace hE := hE.trans hE2
      replace hY := hY.ext hE2
      replace hZ := hZ.ext hE2
      replace hby := hby.below hE2 hby.lt
      replace hbz := hbz.below hE2 hbz.lt
      clear hE2 S4
      obtain ⟨⟨u0, u1, u2, u3, u4, u5, u6, u7⟩, _, _⟩ := hby.eight
      obtain ⟨⟨v0, v1, v2, v3, v4, v5, v6, v7⟩, _, _⟩ := hbz.eight
      go_wp2_with fail
      refine (rsame_any y y _ _ _ _ _ _ _ hY hZ true (hSame_self y)).mono ?_
      rintro e wd ⟨rfl, hE2⟩
      go_wp2_with fail
      go_ret
      exact ⟨rfl, hE.trans hE2⟩
end Go.Proofs.Ytiamcdbnhmlhaaa

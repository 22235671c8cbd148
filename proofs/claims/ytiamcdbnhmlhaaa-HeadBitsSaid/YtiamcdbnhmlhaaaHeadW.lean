/- head.Write: the walk. -/
import Derived.Test.YtiamcdbnhmlhaaaHead
import Derived.Deep.DeepCutAuto
namespace Go.Proofs.Ytiamcdbnhmlhaaa
open Go.RowKit
set_option maxHeartbeats 1000000 in
theorem hwrite_no (h : Hd) (A : Option Addr) (n c : Nat) (w : World) (hr : hRight h.typ n = false) : Calls Try.prog 28 #[.agg #[.bool h.pad, .bool h.ext, .bool h.mark, .int .i64 h.typ, .int .u16 (h.seq.toNat : Int), .int .u32 (h.time.toNat : Int), .int .u32 (h.ssrc.toNat : Int), .slice A n c]] w fun e w' => e = .returned (.tuple #[.slice none 0 0, .int .i64 1]) ∧ Ext w w' := by
  have S := hide (fun W => hright_any h A n c W)
  rw [hr] at S
  clear hr
  go_enter Try.func28, Try.ntmps28
  go_wp2_with fail
  refine (S.out _).mono ?_
  rintro e w1 ⟨rfl, hE⟩
  go_wp2_with fail
  go_ret2
  exact ⟨rfl, ((Ext.refl _).alloc _).trans hE⟩
theorem h0_bits (p x : Bool) (n : Nat) (hn : n ≤ 15) : bits .or .u8 (bits .or .u8 (bits .or .u8 128 (bI p 32)) (bI x 16)) (n : Int) = ((128 + bit p 32 + bit x 16 + n : Nat) : Int) := by
  have h : ∀ p x : Bool, ∀ n : Fin 16, bits .or .u8 (bits .or .u8 (bits .or .u8 128 (bI p 32)) (bI x 16)) (n.1 : Int) = ((128 + bit p 32 + bit x 16 + n.1 : Nat) : Int) := by decide +kernel
  exact h p x ⟨n, by omega⟩
theorem h1_bits (m : Bool) (t : Nat) (ht : t ≤ 127) : bits .or .u8 (bI m 128) (t : Int) = ((bit m 128 + t : Nat) : Int) := by
  have h : ∀ m : Bool, ∀ t : Fin 128, bits .or .u8 (bI m 128) (t.1 : Int) = ((bit m 128 + t.1 : Nat) : Int) := by decide +kernel
  exact h m ⟨t, by omega⟩
theorem join_O (A : Option Addr) (k c : Nat) (ls : List (List UInt8)) (w0 w : World) (hE : Ext w0 w) (h : Slices w A k c ls) (n : Nat) (x : List UInt8) (hx : cat ls = x) (hl : x.length = n) (hn : n ≤ 70368744177664) :
    Calls Try.prog 22 #[.slice A k c] w fun e w' => ∃ A' c', e = .returned (.slice A' n c') ∧ w'.ownsRow w0.heap.size 5 1 (.slice A' n c') n (x.map Bv) ∧ Ext w w' := by
  subst hx hl
  exact (join_any A k c ls w h hn).mono fun e w' ⟨A', c', he, ho, hE2⟩ => ⟨A', c', he, own_more ho hE.size, hE2⟩
set_option maxRecDepth 100000 in
set_option maxHeartbeats 2000000 in
theorem hwrite_O (h : Hd) (A : Option Addr) (c : Nat) (n : Nat) (w : World) (hc : Els e32 w A n c h.csrc) (hr : hRight h.typ n = true) : Calls Try.prog 28 #[.agg #[.bool h.pad, .bool h.ext, .bool h.mark, .int .i64 h.typ, .int .u16 (h.seq.toNat : Int), .int .u32 (h.time.toNat : Int), .int .u32 (h.ssrc.toNat : Int), .slice A n c]] w fun e w' => ∃ A' c', e = .returned (.tuple #[.slice A' (12 + 4 * n) c', .int .i64 0]) ∧ w'.ownsRow w.heap.size 5 1 (.slice A' (12 + 4 * n) c') (12 + 4 * n) ((hBytes h).map Bv) ∧ Ext w w' := by
  obtain ⟨r1, r2, r3⟩ := hRight_iff.1 hr
  have hlen := hc.len
  have hnc := hc.le
  have hcm := hc.reach
  have hbx := Blk.new w 54 #[.bool h.pad, .bool h.ext, .bool h.mark, .int .i64 h.typ, .int .u16 (h.seq.toNat : Int), .int .u32 (h.time.toNat : Int), .int .u32 (h.ssrc.toNat : Int), .slice A n c]
  have hE := (Ext.refl w).alloc (.cells #[.bool h.pad, .bool h.ext, .bool h.mark, .int .i64 h.typ, .int .u16 (h.seq.toNat : Int), .int .u32 (h.time.toNat : Int), .int .u32 (h.ssrc.toNat : Int), .slice A n c] 54)
  have S := hide (fun W => hright_any h A n c W)
  rw [hr] at S
  clear hr
  obtain ⟨t, ht⟩ : ∃ t : Nat, h.typ = t := ⟨h.typ.toNat, by omega⟩
  have ht127 : t ≤ 127 := by omega
  have q0 : h0 h = 128 + bit h.pad 32 + bit h.ext 16 + n := by rw [h0, hlen]
  have q1 : h1 h = bit h.mark 128 + t := by rw [h1, ht]; simp
  have k0 := h0_bits h.pad h.ext n r3
  have k1 := h1_bits h.mark t ht127
  rw [← q0] at k0
  rw [← q1, show (t : Int) = IntKind.u8.wrap h.typ by rw [IntKind.wrap_u8]; omega] at k1
  have l0 : h0 h < 256 := by rw [q0]; have := bit_le h.pad 32; have := bit_le h.ext 16; omega
  have l1 : h1 h < 256 := by rw [q1]; have := bit_le h.mark 128; omega
  have hfx : hFix h = cat [[UInt8.ofNat (h0 h), UInt8.ofNat (h1 h)], be 2 h.seq.toNat, be 4 h.time.toNat, be 4 h.ssrc.toNat] := by simp [hFix, cat]
  have hfl := hFix_len h
  have hby : hBytes h = hFix h ++ cBe (h.csrc.take n) := by rw [List.take_of_length_le (by omega)]; rfl
  have hv : ([UInt8.ofNat (h0 h), UInt8.ofNat (h1 h)].map Bv) = [.int .u8 (h0 h : Int), .int .u8 (h1 h : Int)] := by simp [Bv]; omega
  have hs16 : (h.seq.toNat : Int) < 65536 := by have := h.seq.toNat_lt; omega
  have hpe : putE h.seq.toNat 2 = 0 := putE_of (by omega) (by omega) (by have := h.seq.toNat_lt; simpa using this)
  have P := hide (fun W => put_B h.seq.toNat 2 W (by omega) (be 2 h.seq.toNat) (putL_ok hpe) 0 hpe)
  have hbl := be_length 2 h.seq.toNat
  rw [hbl] at P
  have HFX := hide hfx
  have HFL := hide hfl
  have HBY := hide hby
  have HV := hide hv
  have HT := hide ht
  have K0 := hide k0
  have K1 := hide k1
  have HLEN := hide hlen
  clear q0 q1 k0 k1 hfx hfl hby hv hbl hpe ht hlen
  go_enter Try.func28, Try.ntmps28
  go_wp2_with fail
  refine (S.out _).mono ?_
  rintro e w1 ⟨rfl, hE1⟩
  replace hbx := hbx.below hE1 (by simp)
  replace hE := hE.trans hE1
  clear hE1 S
  obtain ⟨⟨u0, u1, u2, u3, u4, u5, u6, u7⟩, _, hlt⟩ := hbx.eight
  go_wp2_with fail
  go_quiet ((go_at_call 40; exact Calls.quiet_of_same ((flag_any _ _ _).mono fun _ _ q => ⟨q.1, q.2.symm⟩)))
  go_wp2_with fail
  refine (P.out _).mono ?_
  rintro e w2 ⟨A5, c5, rfl, hB5, hE2⟩
  rw [K0.out]
  replace hE2 : Ext w1 w2 := ((Ext.refl w1).drewN nq).trans hE2
  replace hbx := hbx.below hE2 hlt
  replace hE := hE.trans hE2
  clear hE2 P u0 u1 u2 u3 u4 u5 u6 u7
  go_upto_region 5 with fail
  go_cut [7] (fun v wx => ∃ A' c', v = .slice A' 12 c' ∧ wx.ownsRow w.heap.size 5 1 (.slice A' 12 c') 12 ((hFix h).map Bv) ∧ Ext w2 wx)
  case first =>
    have F := hide (fun W (hW : Ext w2 W) => (hbx.below hW hbx.lt).eight)
    have f2 := fun W hW => (F.out W hW).1.2.2.1
    have f3 := fun W hW => (F.out W hW).1.2.2.2.1
    have f5 := fun W hW => (F.out W hW).1.2.2.2.2.2.1
    have f6 := fun W hW => (F.out W hW).1.2.2.2.2.2.2.1
    have f9 := fun W hW => (F.out W hW).2.2
    clear hc
    go_wp2_with fail
    refine regE_start (by kernel_rfl) ?_
    have hR := (Ext.refl w2).drew
    replace hB5 := hB5.drew
    generalize hgw : (w2).drew = wr0 at *
    clear hgw
    refine regE_take (i := 0) (v := ?_) rfl (by kernel_rfl) (by kernel_rfl) (by kernel_rfl) (fun _ _ _ h => h) (by rfl) ?_ ?_
    rotate_left
    · intro W hW; go_simp; try with_reducible rfl
    simp only [Act.put, List.setIfInBounds_toArray, List.set_cons_zero, List.set_cons_succ]
    refine regE_take (i := 1) (v := ?_) rfl (by kernel_rfl) (by kernel_rfl) (by kernel_rfl) (fun _ _ _ h => h) (by rfl) ?_ ?_
    rotate_left
    · intro W hW; go_simp; try with_reducible rfl
    simp only [Act.put, List.setIfInBounds_toArray, List.set_cons_zero, List.set_cons_succ]
    refine regE_take (i := 2) (v := ?_) rfl (by kernel_rfl) (by kernel_rfl) (by kernel_rfl) (fun _ _ _ h => h) (by rfl) ?_ ?_
    rotate_left
    · intro W hW; go_simp; try with_reducible rfl
    simp only [Act.put, List.setIfInBounds_toArray, List.set_cons_zero, List.set_cons_succ]
    refine regE_take (i := 4) (v := ?_) rfl (by kernel_rfl) (by kernel_rfl) (by kernel_rfl) (fun _ _ _ h => h) (by rfl) ?_ ?_
    rotate_left
    · intro W hW; go_simp; try with_reducible rfl
    simp only [Act.put, List.setIfInBounds_toArray, List.set_cons_zero, List.set_cons_succ]
    refine regE_take (i := 5) (v := ?_) rfl (by kernel_rfl) (by kernel_rfl) (by kernel_rfl) (fun _ _ _ h => h) (by rfl) ?_ ?_
    rotate_left
    · intro W hW; go_simp; try with_reducible rfl
    simp only [Act.put, List.setIfInBounds_toArray, List.set_cons_zero, List.set_cons_succ]
    refine regE_take (i := 6) (v := ?_) rfl (by kernel_rfl) (by kernel_rfl) (by kernel_rfl) (fun _ _ _ h => h) (by rfl) ?_ ?_
    rotate_left
    · intro W hW; go_simp; try with_reducible rfl
    simp only [Act.put, List.setIfInBounds_toArray, List.set_cons_zero, List.set_cons_succ]
    refine regE_take (i := 9) (v := ?_) rfl (by kernel_rfl) (by kernel_rfl) (by kernel_rfl) (fun _ _ _ h => h) (by rfl) ?_ ?_
    rotate_left
    · intro W hW; go_simp; try with_reducible rfl
    simp only [Act.put, List.setIfInBounds_toArray, List.set_cons_zero, List.set_cons_succ]
    refine regE_take (i := 10) (v := ?_) rfl (by kernel_rfl) (by kernel_rfl) (by kernel_rfl) (fun _ _ _ h => h) (by rfl) ?_ ?_
    rotate_left
    · intro W hW; go_simp; try with_reducible rfl
    simp only [Act.put, List.setIfInBounds_toArray, List.set_cons_zero, List.set_cons_succ]
    refine regE_take (i := 11) (v := ?_) rfl (by kernel_rfl) (by kernel_rfl) (by kernel_rfl) (fun _ _ _ h => h) (by rfl) ?_ ?_
    rotate_left
    · intro W hW; go_simp; try with_reducible rfl
    simp only [Act.put, List.setIfInBounds_toArray, List.set_cons_zero, List.set_cons_succ]
    refine regE_take (i := 13) (v := ?_) rfl (by kernel_rfl) (by kernel_rfl) (by kernel_rfl) (fun _ _ _ h => h) (by rfl) ?_ ?_
    rotate_left
    · intro W hW; go_simp; try with_reducible rfl
    simp only [Act.put, List.setIfInBounds_toArray, List.set_cons_zero, List.set_cons_succ]
    refine regE_take (i := 14) (v := ?_) rfl (by kernel_rfl) (by kernel_rfl) (by kernel_rfl) (fun _ _ _ h => h) (by rfl) ?_ ?_
    rotate_left
    · intro W hW; go_simp; try with_reducible rfl
    simp only [Act.put, List.setIfInBounds_toArray, List.set_cons_zero, List.set_cons_succ]
    refine regE_do (i := 3) rfl (by kernel_rfl) (fun K hK => ?_)
    rw [if_pos (by rfl)]
    go_simp
    refine (flag_any _ _ _).mono ?_
    rintro e w' ⟨rfl, rfl⟩
    refine hK.out _ _ hR ?_
    clear hK K
    try simp only [Act.put, List.setIfInBounds_toArray, List.set_cons_zero, List.set_cons_succ]
    refine regE_take (i := 7) (v := ?_) rfl (by kernel_rfl) (by kernel_rfl) (by kernel_rfl) (fun _ _ _ h => h) (by rfl) ?_ ?_
    rotate_left
    · intro W hW; go_simp; try with_reducible rfl
    simp only [Act.put, List.setIfInBounds_toArray, List.set_cons_zero, List.set_cons_succ]
    refine regE_do2 (i0 := 8) (i1 := 12) (by kernel_rfl) rfl rfl (fun K hK => ?_) (fun K hK => ?_)
    · rw [if_pos (by rfl)]
      go_simp
      rw [K1.out]
      have hL := Bytes.lit (w := wr0) [UInt8.ofNat (h0 h), UInt8.ofNat (h1 h)] 5 2 HV.out rfl (by omega)
      obtain ⟨gL, hgL⟩ : ∃ g, wr0.heap.size = g := ⟨_, rfl⟩
      rw [hgL] at hL ⊢
      clear hgL
      refine hK.out _ _ (hR.alloc _) ?_
      clear hK K
      replace hR := hR.alloc (.cells #[.int .u8 (h0 h : Int), .int .u8 (h1 h : Int)] 5)
      replace hB5 := hB5.alloc (.cells #[.int .u8 (h0 h : Int), .int .u8 (h1 h : Int)] 5)
      generalize hgw : wr0.alloc (.cells #[.int .u8 (h0 h : Int), .int .u8 (h1 h : Int)] 5) = wr1 at *
      clear hgw
      try simp only [Act.put, List.setIfInBounds_toArray, List.set_cons_zero, List.set_cons_succ]
      refine regE_do (i := 12) rfl (by kernel_rfl) (fun K hK => ?_)
      rw [if_pos (by rfl)]
      go_simp
      refine (four_any _ _).mono ?_
      rintro e wr2 ⟨A6, c6, rfl, hB6, hX⟩
      refine hK.out _ _ (hR.trans hX) ?_
      clear hK K
      replace hR := hR.trans hX
      replace hB5 := hB5.ext hX
      replace hL := hL.ext hX
      clear hX
      try simp only [Act.put, List.setIfInBounds_toArray, List.set_cons_zero, List.set_cons_succ]
      refine regE_do (i := 15) rfl (by kernel_rfl) (fun K hK => ?_)
      rw [if_pos (by rfl)]
      go_simp
      refine (four_any _ _).mono ?_
      rintro e wr3 ⟨A7, c7, rfl, hB7, hX⟩
      refine hK.out _ _ (hR.trans hX) ?_
      clear hK K
      replace hR := hR.trans hX
      replace hB5 := hB5.ext hX
      replace hL := hL.ext hX
      replace hB6 := hB6.ext hX
      clear hX
      try simp only [Act.put, List.setIfInBounds_toArray, List.set_cons_zero, List.set_cons_succ]
      refine regE_do (i := 16) rfl (by kernel_rfl) (fun K hK => ?_)
      rw [if_pos (by rfl)]
      go_simp
      have hSl := Slices.lit (w := wr3) (vs := [.slice (some ⟨gL, 0, none⟩) 2 2, .slice A5 2 c5, .slice A6 4 c6, .slice A7 4 c7]) (ls := [[UInt8.ofNat (h0 h), UInt8.ofNat (h1 h)], be 2 h.seq.toNat, be 4 h.time.toNat, be 4 h.ssrc.toNat]) 22 4 rfl (by omega) ⟨hL, hB5, hB6, hB7, trivial⟩
      obtain ⟨gS, hgS⟩ : ∃ g, wr3.heap.size = g := ⟨_, rfl⟩
      rw [hgS] at hSl ⊢
      clear hgS
      refine hK.out _ _ (hR.alloc _) ?_
      clear hK K
      replace hR := hR.alloc (.cells #[.slice (some ⟨gL, 0, none⟩) 2 2, .slice A5 2 c5, .slice A6 4 c6, .slice A7 4 c7] 22)
      replace hB5 := hB5.alloc (.cells #[.slice (some ⟨gL, 0, none⟩) 2 2, .slice A5 2 c5, .slice A6 4 c6, .slice A7 4 c7] 22)
      replace hL := hL.alloc (.cells #[.slice (some ⟨gL, 0, none⟩) 2 2, .slice A5 2 c5, .slice A6 4 c6, .slice A7 4 c7] 22)
      replace hB6 := hB6.alloc (.cells #[.slice (some ⟨gL, 0, none⟩) 2 2, .slice A5 2 c5, .slice A6 4 c6, .slice A7 4 c7] 22)
      replace hB7 := hB7.alloc (.cells #[.slice (some ⟨gL, 0, none⟩) 2 2, .slice A5 2 c5, .slice A6 4 c6, .slice A7 4 c7] 22)
      generalize hgw : wr3.alloc (.cells #[.slice (some ⟨gL, 0, none⟩) 2 2, .slice A5 2 c5, .slice A6 4 c6, .slice A7 4 c7] 22) = wr4 at *
      clear hgw
      try simp only [Act.put, List.setIfInBounds_toArray, List.set_cons_zero, List.set_cons_succ]
      refine regE_do (i := 17) rfl (by kernel_rfl) (fun K hK => ?_)
      rw [if_pos (by rfl)]
      go_simp
      refine (join_O _ _ _ _ w _ (hE.trans hR) hSl 12 (hFix h) HFX.out.symm HFL.out (by omega)).mono ?_
      rintro e wr5 ⟨A8, c8, rfl, hO, hX⟩
      refine hK.out _ _ (hR.trans hX) ?_
      clear hK K
      replace hR := hR.trans hX
      replace hB5 := hB5.ext hX
      replace hL := hL.ext hX
      replace hB6 := hB6.ext hX
      replace hB7 := hB7.ext hX
      replace hSl := hSl.ext hX
      clear hX
      try simp only [Act.put, List.setIfInBounds_toArray, List.set_cons_zero, List.set_cons_succ]
      refine regE_take (i := 18) (v := ?_) rfl (by kernel_rfl) (by kernel_rfl) (by kernel_rfl) (fun _ _ _ h => h) (by rfl) ?_ ?_
      rotate_left
      · intro W hW; go_simp; try with_reducible rfl
      simp only [Act.put, List.setIfInBounds_toArray, List.set_cons_zero, List.set_cons_succ]
      refine regE_done (by kernel_rfl) ?_
      go_wp2_with fail
      go_meet
      case rel => exact ⟨A8, c8, rfl, hO, hR⟩
    · rw [if_pos (by rfl)]
      go_simp
      refine (four_any _ _).mono ?_
      rintro e wr1 ⟨A6, c6, rfl, hB6, hX⟩
      refine hK.out _ _ (hR.trans hX) ?_
      clear hK K
      replace hR := hR.trans hX
      replace hB5 := hB5.ext hX
      clear hX
      try simp only [Act.put, List.setIfInBounds_toArray, List.set_cons_zero, List.set_cons_succ]
      refine regE_do2 (i0 := 8) (i1 := 15) (by kernel_rfl) rfl rfl (fun K hK => ?_) (fun K hK => ?_)
      · rw [if_pos (by rfl)]
        go_simp
        rw [K1.out]
        have hL := Bytes.lit (w := wr1) [UInt8.ofNat (h0 h), UInt8.ofNat (h1 h)] 5 2 HV.out rfl (by omega)
        obtain ⟨gL, hgL⟩ : ∃ g, wr1.heap.size = g := ⟨_, rfl⟩
        rw [hgL] at hL ⊢
        clear hgL
        refine hK.out _ _ (hR.alloc _) ?_
        clear hK K
        replace hR := hR.alloc (.cells #[.int .u8 (h0 h : Int), .int .u8 (h1 h : Int)] 5)
        replace hB5 := hB5.alloc (.cells #[.int .u8 (h0 h : Int), .int .u8 (h1 h : Int)] 5)
        replace hB6 := hB6.alloc (.cells #[.int .u8 (h0 h : Int), .int .u8 (h1 h : Int)] 5)
        generalize hgw : wr1.alloc (.cells #[.int .u8 (h0 h : Int), .int .u8 (h1 h : Int)] 5) = wr2 at *
        clear hgw
        try simp only [Act.put, List.setIfInBounds_toArray, List.set_cons_zero, List.set_cons_succ]
        refine regE_do (i := 15) rfl (by kernel_rfl) (fun K hK => ?_)
        rw [if_pos (by rfl)]
        go_simp
        refine (four_any _ _).mono ?_
        rintro e wr3 ⟨A7, c7, rfl, hB7, hX⟩
        refine hK.out _ _ (hR.trans hX) ?_
        clear hK K
        replace hR := hR.trans hX
        replace hB5 := hB5.ext hX
        replace hB6 := hB6.ext hX
        replace hL := hL.ext hX
        clear hX
        try simp only [Act.put, List.setIfInBounds_toArray, List.set_cons_zero, List.set_cons_succ]
        refine regE_do (i := 16) rfl (by kernel_rfl) (fun K hK => ?_)
        rw [if_pos (by rfl)]
        go_simp
        have hSl := Slices.lit (w := wr3) (vs := [.slice (some ⟨gL, 0, none⟩) 2 2, .slice A5 2 c5, .slice A6 4 c6, .slice A7 4 c7]) (ls := [[UInt8.ofNat (h0 h), UInt8.ofNat (h1 h)], be 2 h.seq.toNat, be 4 h.time.toNat, be 4 h.ssrc.toNat]) 22 4 rfl (by omega) ⟨hL, hB5, hB6, hB7, trivial⟩
        obtain ⟨gS, hgS⟩ : ∃ g, wr3.heap.size = g := ⟨_, rfl⟩
        rw [hgS] at hSl ⊢
        clear hgS
        refine hK.out _ _ (hR.alloc _) ?_
        clear hK K
        replace hR := hR.alloc (.cells #[.slice (some ⟨gL, 0, none⟩) 2 2, .slice A5 2 c5, .slice A6 4 c6, .slice A7 4 c7] 22)
        replace hB5 := hB5.alloc (.cells #[.slice (some ⟨gL, 0, none⟩) 2 2, .slice A5 2 c5, .slice A6 4 c6, .slice A7 4 c7] 22)
        replace hB6 := hB6.alloc (.cells #[.slice (some ⟨gL, 0, none⟩) 2 2, .slice A5 2 c5, .slice A6 4 c6, .slice A7 4 c7] 22)
        replace hL := hL.alloc (.cells #[.slice (some ⟨gL, 0, none⟩) 2 2, .slice A5 2 c5, .slice A6 4 c6, .slice A7 4 c7] 22)
        replace hB7 := hB7.alloc (.cells #[.slice (some ⟨gL, 0, none⟩) 2 2, .slice A5 2 c5, .slice A6 4 c6, .slice A7 4 c7] 22)
        generalize hgw : wr3.alloc (.cells #[.slice (some ⟨gL, 0, none⟩) 2 2, .slice A5 2 c5, .slice A6 4 c6, .slice A7 4 c7] 22) = wr4 at *
        clear hgw
        try simp only [Act.put, List.setIfInBounds_toArray, List.set_cons_zero, List.set_cons_succ]
        refine regE_do (i := 17) rfl (by kernel_rfl) (fun K hK => ?_)
        rw [if_pos (by rfl)]
        go_simp
        refine (join_O _ _ _ _ w _ (hE.trans hR) hSl 12 (hFix h) HFX.out.symm HFL.out (by omega)).mono ?_
        rintro e wr5 ⟨A8, c8, rfl, hO, hX⟩
        refine hK.out _ _ (hR.trans hX) ?_
        clear hK K
        replace hR := hR.trans hX
        replace hB5 := hB5.ext hX
        replace hB6 := hB6.ext hX
        replace hL := hL.ext hX
        replace hB7 := hB7.ext hX
        replace hSl := hSl.ext hX
        clear hX
        try simp only [Act.put, List.setIfInBounds_toArray, List.set_cons_zero, List.set_cons_succ]
        refine regE_take (i := 18) (v := ?_) rfl (by kernel_rfl) (by kernel_rfl) (by kernel_rfl) (fun _ _ _ h => h) (by rfl) ?_ ?_
        rotate_left
        · intro W hW; go_simp; try with_reducible rfl
        simp only [Act.put, List.setIfInBounds_toArray, List.set_cons_zero, List.set_cons_succ]
        refine regE_done (by kernel_rfl) ?_
        go_wp2_with fail
        go_meet
        case rel => exact ⟨A8, c8, rfl, hO, hR⟩
      · rw [if_pos (by rfl)]
        go_simp
        refine (four_any _ _).mono ?_
        rintro e wr2 ⟨A7, c7, rfl, hB7, hX⟩
        refine hK.out _ _ (hR.trans hX) ?_
        clear hK K
        replace hR := hR.trans hX
        replace hB5 := hB5.ext hX
        replace hB6 := hB6.ext hX
        clear hX
        try simp only [Act.put, List.setIfInBounds_toArray, List.set_cons_zero, List.set_cons_succ]
        refine regE_do (i := 8) rfl (by kernel_rfl) (fun K hK => ?_)
        rw [if_pos (by rfl)]
        go_simp
        rw [K1.out]
        have hL := Bytes.lit (w := wr2) [UInt8.ofNat (h0 h), UInt8.ofNat (h1 h)] 5 2 HV.out rfl (by omega)
        obtain ⟨gL, hgL⟩ : ∃ g, wr2.heap.size = g := ⟨_, rfl⟩
        rw [hgL] at hL ⊢
        clear hgL
        refine hK.out _ _ (hR.alloc _) ?_
        clear hK K
        replace hR := hR.alloc (.cells #[.int .u8 (h0 h : Int), .int .u8 (h1 h : Int)] 5)
        replace hB5 := hB5.alloc (.cells #[.int .u8 (h0 h : Int), .int .u8 (h1 h : Int)] 5)
        replace hB6 := hB6.alloc (.cells #[.int .u8 (h0 h : Int), .int .u8 (h1 h : Int)] 5)
        replace hB7 := hB7.alloc (.cells #[.int .u8 (h0 h : Int), .int .u8 (h1 h : Int)] 5)
        generalize hgw : wr2.alloc (.cells #[.int .u8 (h0 h : Int), .int .u8 (h1 h : Int)] 5) = wr3 at *
        clear hgw
        try simp only [Act.put, List.setIfInBounds_toArray, List.set_cons_zero, List.set_cons_succ]
        refine regE_do (i := 16) rfl (by kernel_rfl) (fun K hK => ?_)
        rw [if_pos (by rfl)]
        go_simp
        have hSl := Slices.lit (w := wr3) (vs := [.slice (some ⟨gL, 0, none⟩) 2 2, .slice A5 2 c5, .slice A6 4 c6, .slice A7 4 c7]) (ls := [[UInt8.ofNat (h0 h), UInt8.ofNat (h1 h)], be 2 h.seq.toNat, be 4 h.time.toNat, be 4 h.ssrc.toNat]) 22 4 rfl (by omega) ⟨hL, hB5, hB6, hB7, trivial⟩
        obtain ⟨gS, hgS⟩ : ∃ g, wr3.heap.size = g := ⟨_, rfl⟩
        rw [hgS] at hSl ⊢
        clear hgS
        refine hK.out _ _ (hR.alloc _) ?_
        clear hK K
        replace hR := hR.alloc (.cells #[.slice (some ⟨gL, 0, none⟩) 2 2, .slice A5 2 c5, .slice A6 4 c6, .slice A7 4 c7] 22)
        replace hB5 := hB5.alloc (.cells #[.slice (some ⟨gL, 0, none⟩) 2 2, .slice A5 2 c5, .slice A6 4 c6, .slice A7 4 c7] 22)
        replace hB6 := hB6.alloc (.cells #[.slice (some ⟨gL, 0, none⟩) 2 2, .slice A5 2 c5, .slice A6 4 c6, .slice A7 4 c7] 22)
        replace hB7 := hB7.alloc (.cells #[.slice (some ⟨gL, 0, none⟩) 2 2, .slice A5 2 c5, .slice A6 4 c6, .slice A7 4 c7] 22)
        replace hL := hL.alloc (.cells #[.slice (some ⟨gL, 0, none⟩) 2 2, .slice A5 2 c5, .slice A6 4 c6, .slice A7 4 c7] 22)
        generalize hgw : wr3.alloc (.cells #[.slice (some ⟨gL, 0, none⟩) 2 2, .slice A5 2 c5, .slice A6 4 c6, .slice A7 4 c7] 22) = wr4 at *
        clear hgw
        try simp only [Act.put, List.setIfInBounds_toArray, List.set_cons_zero, List.set_cons_succ]
        refine regE_do (i := 17) rfl (by kernel_rfl) (fun K hK => ?_)
        rw [if_pos (by rfl)]
        go_simp
        refine (join_O _ _ _ _ w _ (hE.trans hR) hSl 12 (hFix h) HFX.out.symm HFL.out (by omega)).mono ?_
        rintro e wr5 ⟨A8, c8, rfl, hO, hX⟩
        refine hK.out _ _ (hR.trans hX) ?_
        clear hK K
        replace hR := hR.trans hX
        replace hB5 := hB5.ext hX
        replace hB6 := hB6.ext hX
        replace hB7 := hB7.ext hX
        replace hL := hL.ext hX
        replace hSl := hSl.ext hX
        clear hX
        try simp only [Act.put, List.setIfInBounds_toArray, List.set_cons_zero, List.set_cons_succ]
        refine regE_take (i := 18) (v := ?_) rfl (by kernel_rfl) (by kernel_rfl) (by kernel_rfl) (fun _ _ _ h => h) (by rfl) ?_ ?_
        rotate_left
        · intro W hW; go_simp; try with_reducible rfl
        simp only [Act.put, List.setIfInBounds_toArray, List.set_cons_zero, List.set_cons_succ]
        refine regE_done (by kernel_rfl) ?_
        go_wp2_with fail
        go_meet
        case rel => exact ⟨A8, c8, rfl, hO, hR⟩
  case rest =>
    obtain ⟨A8, c8, rfl, hO, hE3⟩ := hcut
    replace hbx := hbx.below hE3 hbx.lt
    replace hE := hE.trans hE3
    clear hE3 hB5
    obtain ⟨⟨u0, u1, u2, u3, u4, u5, u6, u7⟩, _, hlt⟩ := hbx.eight
    go_wp2_with fail
    clear u0 u1 u2 u3 u4 u5 u6 u7
    go_loopw [7, 54] (fun v i wr => ∃ (j : Nat) (A' : Option Addr) (c' : Nat), j ≤ n ∧ i = .int .i64 j ∧ v = .slice A' (12 + 4 * j) c' ∧ wr.ownsRow w.heap.size 5 1 (.slice A' (12 + 4 * j) c') (12 + 4 * j) ((hFix h ++ cBe (h.csrc.take j)).map Bv) ∧ Ext w wr) (fun _ i _ => n - (intOf i).toNat)
    case atStart => exact ⟨0, A8, c8, Nat.zero_le _, rfl, rfl, by simpa [cBe] using hO, hE⟩
    case round =>
      clear hO
      obtain ⟨j, A', c', hj, rfl, rfl, hO, hX⟩ := hrel
      by_cases hlt : j < n
      · have hjl : j < h.csrc.length := by rw [HLEN.out]; exact hlt
        obtain ⟨g, o, rfl, hg, hcell⟩ := (hc.ext hX).u32 (by omega)
        have hc0 := hcell j hjl
        have hts := cBe_take h.csrc j hjl
        generalize h.csrc[j] = q at hc0 hts
        have hq := q.toNat_lt
        have HTS := hide hts
        clear hcell hts
        go_wp2_with fail
        refine (four_any q _).mono ?_
        rintro e w4 ⟨A9, c9, rfl, hB9, hE4⟩
        replace hO := own_ext hO hE4
        replace hX := hX.trans hE4
        clear hE4 hc0
        go_wp2_with (at_builtin; refine wpList_appB w _ _ rfl rfl hX A' (12 + 4 * j) c' _ rfl hO A9 4 c9 _ rfl hB9 (by omega) ?_; intro A2 c2 w5 hO2 hE5)
        go_roundw
        case rel => exact ⟨j + 1, A2, c2, by omega, by go_num, rfl, by rw [HTS.out, ← List.append_assoc]; exact hO2, hE5⟩
        case measure => simp [intOf]; omega
      · obtain rfl : j = n := by omega
        go_wp2_with fail
        go_ret2
        exact ⟨A', c', rfl, by rw [HBY.out]; exact hO, hX⟩
theorem hwrite_B (h : Hd) (A : Option Addr) (c : Nat) (n : Nat) (w : World) (hc : Els e32 w A n c h.csrc) (hr : hRight h.typ n = true) (x : List UInt8) (hx : hBytes h = x) : Calls Try.prog 28 #[.agg #[.bool h.pad, .bool h.ext, .bool h.mark, .int .i64 h.typ, .int .u16 (h.seq.toNat : Int), .int .u32 (h.time.toNat : Int), .int .u32 (h.ssrc.toNat : Int), .slice A n c]] w fun e w' => ∃ A' c', e = .returned (.tuple #[.slice A' (12 + 4 * n) c', .int .i64 0]) ∧ Bytes w' A' (12 + 4 * n) c' x ∧ Ext w w' := by
  subst hx
  exact (hwrite_O h A c n w hc hr).mono fun e w' ⟨A', c', he, ho, hE⟩ => ⟨A', c', he, Bytes.own ho, hE⟩
end Go.Proofs.Ytiamcdbnhmlhaaa

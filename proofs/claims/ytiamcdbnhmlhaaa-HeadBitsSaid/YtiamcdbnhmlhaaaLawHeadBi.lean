/- HeadBits: the walk. -/
import Derived.Test.YtiamcdbnhmlhaaaLawHeadB
import Derived.Deep.CutBlock
import Derived.BigQuiet
namespace Go.Proofs.Ytiamcdbnhmlhaaa
open Go.RowKit
/-- Headers whose bytes are the same but between two places. -/
def hDiff (h q : Hd) (f t : Nat) : Prop := q.csrc.length = h.csrc.length ∧ ∀ i, i < f ∨ t ≤ i → (hBytes h).getD i 0 = (hBytes q).getD i 0
theorem mid_getD (P M M' S : List UInt8) (hM : M.length = M'.length) (i : Nat) (hi : i < P.length ∨ P.length + M.length ≤ i) : (P ++ M ++ S).getD i 0 = (P ++ M' ++ S).getD i 0 := by
  rw [List.getD_eq_getElem?_getD, List.getD_eq_getElem?_getD, List.append_assoc, List.append_assoc]
  rcases hi with h | h
  · rw [List.getElem?_append_left h, List.getElem?_append_left h]
  · rw [List.getElem?_append_right (by omega), List.getElem?_append_right (by omega), List.getElem?_append_right (by omega), List.getElem?_append_right (by omega), hM]
theorem hDiff_mid {h q : Hd} {f t : Nat} (P M M' S : List UInt8) (hl : q.csrc.length = h.csrc.length) (e1 : hBytes h = P ++ M ++ S) (e2 : hBytes q = P ++ M' ++ S) (hM : M.length = M'.length) (hf : P.length = f) (ht : f + M.length = t) : hDiff h q f t :=
  ⟨hl, fun i hi => by rw [e1, e2]; exact mid_getD P M M' S hM i (by omega)⟩
theorem hDiff0 (h : Hd) (a b : Bool) : hDiff h { h with pad := a, ext := b } 0 1 :=
  hDiff_mid [] [UInt8.ofNat (h0 h)] [UInt8.ofNat (h0 { h with pad := a, ext := b })] ([UInt8.ofNat (h1 h)] ++ be 2 h.seq.toNat ++ be 4 h.time.toNat ++ be 4 h.ssrc.toNat ++ cBe h.csrc) rfl (by simp [hBytes, hFix]) (by simp [hBytes, hFix, h1]) rfl rfl rfl
theorem hDiff1 (h : Hd) (a : Bool) (b : Int) : hDiff h { h with mark := a, typ := b } 1 2 :=
  hDiff_mid [UInt8.ofNat (h0 h)] [UInt8.ofNat (h1 h)] [UInt8.ofNat (h1 { h with mark := a, typ := b })] (be 2 h.seq.toNat ++ be 4 h.time.toNat ++ be 4 h.ssrc.toNat ++ cBe h.csrc) rfl (by simp [hBytes, hFix]) (by simp [hBytes, hFix, h0]) rfl rfl rfl
theorem hDiff2 (h : Hd) (a : UInt16) : hDiff h { h with seq := a } 2 4 :=
  hDiff_mid [UInt8.ofNat (h0 h), UInt8.ofNat (h1 h)] (be 2 h.seq.toNat) (be 2 a.toNat) (be 4 h.time.toNat ++ be 4 h.ssrc.toNat ++ cBe h.csrc) rfl (by simp [hBytes, hFix]) (by simp [hBytes, hFix, h0, h1]) (by rw [be_length, be_length]) rfl (by rw [be_length])
theorem hDiff3 (h : Hd) (a : UInt32) : hDiff h { h with time := a } 4 8 :=
  hDiff_mid ([UInt8.ofNat (h0 h), UInt8.ofNat (h1 h)] ++ be 2 h.seq.toNat) (be 4 h.time.toNat) (be 4 a.toNat) (be 4 h.ssrc.toNat ++ cBe h.csrc) rfl (by simp [hBytes, hFix]) (by simp [hBytes, hFix, h0, h1]) (by rw [be_length, be_length]) (by simp [be_length]) (by rw [be_length])
theorem hDiff4 (h : Hd) (a : UInt32) : hDiff h { h with ssrc := a } 8 12 :=
  hDiff_mid ([UInt8.ofNat (h0 h), UInt8.ofNat (h1 h)] ++ be 2 h.seq.toNat ++ be 4 h.time.toNat) (be 4 h.ssrc.toNat) (be 4 a.toNat) (cBe h.csrc) rfl (by simp [hBytes, hFix]) (by simp [hBytes, hFix, h0, h1]) (by rw [be_length, be_length]) (by simp [be_length]) (by rw [be_length])
theorem hDiff5 (h : Hd) (a b : UInt32) (l : List UInt32) (hl : h.csrc = b :: l) : hDiff h { h with csrc := a :: l } 12 16 :=
  hDiff_mid (hFix h) (be 4 b.toNat) (be 4 a.toNat) (cBe l) (by simp [hl]) (by simp [hBytes, hl, cBe]) (by simp [hBytes, hFix, h0, h1, cBe, hl]) (by rw [be_length, be_length]) (hFix_len h) (by rw [be_length])
theorem hDiff_self (h : Hd) (f t : Nat) : hDiff h h f t := ⟨rfl, fun _ _ => rfl⟩
theorem own_noneE {α : Type} {E : Enc α} (w : World) (e : TypeId) : (w.alloc (.cells #[] e)).ownsRow w.heap.size e E.size (.slice (some ⟨w.heap.size, 0, none⟩) 0 0) 0 (E.cells []) :=
  World.ownsRow_lit (base := w.heap.size) (e := e) (size := E.size) w #[] 0 (Nat.le_refl _) (by unfold maxLen; omega) (by simp)
theorem own_set0 {w : World} {base : Nat} {e : TypeId} {A : Option Addr} {n c : Nat} {x : UInt32} {l : List UInt32} (a : UInt32) (h : w.ownsRow base e e32.size (.slice A n c) n (e32.cells (x :: l))) :
    ∃ g5 u, A = some ⟨g5, 0, none⟩ ∧ base ≤ g5 ∧ g5 < w.heap.size ∧ w.cell? ⟨g5, 0, none⟩ = some u ∧ w.frozen? ⟨g5, 0, none⟩ = false ∧ (w.setCell ⟨g5, 0, none⟩ (.int .u32 (a.toNat : Int))).ownsRow base e e32.size (.slice A n c) n (e32.cells (a :: l)) := by
  have hlen := h.1
  rcases h.2 with ⟨_, hx⟩ | ⟨g, cap, cur, hv, hb, hg, hn, hm, hs, ht⟩
  · have h1 := Enc.cells_len (E := e32) (x :: l)
    rw [hlen, hx] at h1
    have : e32.size = 1 := rfl
    rw [this] at h1
    simp at h1
  · injection hv with hA _ hc
    subst hA hc
    have hB : Blk w g e cur := hg
    have hc0 : e32.cells (x :: l) = .int .u32 (x.toNat : Int) :: e32.cells l := by simp [Enc.cells, e32]
    have hca : e32.cells (a :: l) = .int .u32 (a.toNat : Int) :: e32.cells l := by simp [Enc.cells, e32]
    rw [hc0] at ht hlen
    obtain ⟨cl⟩ := cur
    match cl, ht with
    | [], ht => simp at ht
    | y :: cl, ht =>
      have hpos : ∃ k, n * e32.size = k + 1 := ⟨n * e32.size - 1, by
        have : 0 < n * e32.size := by rw [← hlen]; simp
        omega⟩
      obtain ⟨k, hk⟩ := hpos
      rw [hk] at ht
      simp at ht
      refine ⟨g, y, rfl, hb, hB.lt, hB.cell 0, hB.frozen 0, ?_, .inr ⟨g, c, _, rfl, hb, hB.set_ 0 _, hn, hm, by simpa using hs, ?_⟩⟩
      · rw [hca]; simpa using hlen
      · rw [hca]
        rw [hk]
        simp
        exact ht.2
set_option maxRecDepth 100000 in
set_option maxHeartbeats 4000000 in
theorem law_headbits (h : Hd) (A : Option Addr) (n c : Nat) (k : Hd) (A2 : Option Addr) (n2 c2 : Nat) (fld : Nat) (hf : fld < 256) (w : World) (hh : Els e32 w A n c h.csrc) (hk : Els e32 w A2 n2 c2 k.csrc) :
    Calls Try.prog 10 #[.agg #[.bool h.pad, .bool h.ext, .bool h.mark, .int .i64 h.typ, .int .u16 (h.seq.toNat : Int), .int .u32 (h.time.toNat : Int), .int .u32 (h.ssrc.toNat : Int), .slice A n c], .agg #[.bool k.pad, .bool k.ext, .bool k.mark, .int .i64 k.typ, .int .u16 (k.seq.toNat : Int), .int .u32 (k.time.toNat : Int), .int .u32 (k.ssrc.toNat : Int), .slice A2 n2 c2], .int .u8 (fld : Int)] w fun e w' => e = .returned (.bool true) ∧ Ext w w' := by
  have hbx := (Blk.new w 54 #[.bool h.pad, .bool h.ext, .bool h.mark, .int .i64 h.typ, .int .u16 (h.seq.toNat : Int), .int .u32 (h.time.toNat : Int), .int .u32 (h.ssrc.toNat : Int), .slice A n c]).alloc (.cells #[.bool k.pad, .bool k.ext, .bool k.mark, .int .i64 k.typ, .int .u16 (k.seq.toNat : Int), .int .u32 (k.time.toNat : Int), .int .u32 (k.ssrc.toNat : Int), .slice A2 n2 c2] 54)
  have hbk := Blk.new (w.alloc (.cells #[.bool h.pad, .bool h.ext, .bool h.mark, .int .i64 h.typ, .int .u16 (h.seq.toNat : Int), .int .u32 (h.time.toNat : Int), .int .u32 (h.ssrc.toNat : Int), .slice A n c] 54)) 54 #[.bool k.pad, .bool k.ext, .bool k.mark, .int .i64 k.typ, .int .u16 (k.seq.toNat : Int), .int .u32 (k.time.toNat : Int), .int .u32 (k.ssrc.toNat : Int), .slice A2 n2 c2]
  rw [World.size_alloc] at hbk
  have hE := ((Ext.refl w).alloc (.cells #[.bool h.pad, .bool h.ext, .bool h.mark, .int .i64 h.typ, .int .u16 (h.seq.toNat : Int), .int .u32 (h.time.toNat : Int), .int .u32 (h.ssrc.toNat : Int), .slice A n c] 54)).alloc (.cells #[.bool k.pad, .bool k.ext, .bool k.mark, .int .i64 k.typ, .int .u16 (k.seq.toNat : Int), .int .u32 (k.time.toNat : Int), .int .u32 (k.ssrc.toNat : Int), .slice A2 n2 c2] 54)
  replace hh := hh.ext hE
  replace hk := hk.ext hE
  by_cases hbig : 99 < n
  · go_enter Try.func10, Try.ntmps10
    go_wp2_with fail
    refine (awake05 _).mono ?_
    rintro e w1 ⟨rfl, hE2⟩
    replace hbx := hbx.below hE2 hbx.lt
    obtain ⟨⟨u0, u1, u2, u3, u4, u5, u6, u7⟩, _, _⟩ := hbx.eight
    go_wp2_with fail
    go_ret
    exact ⟨rfl, hE.trans hE2⟩
  · obtain ⟨r1, hr1⟩ : ∃ r, hRight h.typ n = r := ⟨_, rfl⟩
    have S1 := hide (fun W hh => hwrite_gen h A c n W hh r1 hr1)
    have hln := hh.len
    have HR1 := hide (And.intro hr1 hln)
    have hnc := hh.le
    have hcm := hh.reach
    clear hr1 hln
    go_enter Try.func10, Try.ntmps10
    go_wp2_with fail
    refine (awake05 _).mono ?_
    rintro e w1 ⟨rfl, hE2⟩
    replace hE := hE.trans hE2
    replace hh := hh.ext hE2
    replace hk := hk.ext hE2
    replace hbx := hbx.below hE2 hbx.lt
    replace hbk := hbk.below hE2 hbk.lt
    clear hE2
    obtain ⟨⟨u0, u1, u2, u3, u4, u5, u6, u7⟩, _, _⟩ := hbx.eight
    go_wp2_with fail
    clear u0 u1 u2 u3 u4 u5 u6 u7
    refine (S1.out _ hh).mono ?_
    rintro e w2 ⟨Ax, Nx, cx, x, Ex, rfl, hX, hy1, hn1, hE2⟩
    have HY1 := hide hy1
    have HN1 := hide hn1
    replace hE := hE.trans hE2
    replace hh := hh.ext hE2
    replace hk := hk.ext hE2
    replace hbx := hbx.below hE2 hbx.lt
    replace hbk := hbk.below hE2 hbk.lt
    clear hE2 S1 hy1 hn1
    obtain ⟨⟨u0, u1, u2, u3, u4, u5, u6, u7⟩, _, _⟩ := hbx.eight
    have hbg := Blk.new w2 54 #[.bool h.pad, .bool h.ext, .bool h.mark, .int .i64 h.typ, .int .u16 (h.seq.toNat : Int), .int .u32 (h.time.toNat : Int), .int .u32 (h.ssrc.toNat : Int), .slice A n c]
    have hR3 := (Ext.refl w2).alloc (.cells #[.bool h.pad, .bool h.ext, .bool h.mark, .int .i64 h.typ, .int .u16 (h.seq.toNat : Int), .int .u32 (h.time.toNat : Int), .int .u32 (h.ssrc.toNat : Int), .slice A n c] 54)
    obtain ⟨g, hg⟩ : ∃ g, w2.heap.size = g := ⟨_, rfl⟩
    have hge : w2.heap.size ≤ g := by omega
    rw [hg] at hbg
    obtain ⟨f6, hf6⟩ : ∃ f6, fld % 6 = f6 := ⟨_, rfl⟩
    have hf6i : (fld : Int) % 6 = (f6 : Int) := by omega
    have hf6l : f6 < 6 := by omega
    go_upto_block 0 with fail
    clear hf6i
    clear hg u0 u1 u2 u3 u4 u5 u6 u7
    generalize hgw : w2.alloc (.cells #[.bool h.pad, .bool h.ext, .bool h.mark, .int .i64 h.typ, .int .u16 (h.seq.toNat : Int), .int .u32 (h.time.toNat : Int), .int .u32 (h.ssrc.toNat : Int), .slice A n c] 54) = w3 at *
    clear hgw
    go_cut [9, 10] (fun v9 v10 wx => ∃ (f t : Nat) (q : Hd) (A' : Option Addr) (c' : Nat), v9 = .int .i64 f ∧ v10 = .int .i64 t ∧ f ≤ 12 ∧ t ≤ 16 ∧ hDiff h q f t ∧ Blk wx g 54 #[.bool q.pad, .bool q.ext, .bool q.mark, .int .i64 q.typ, .int .u16 (q.seq.toNat : Int), .int .u32 (q.time.toNat : Int), .int .u32 (q.ssrc.toNat : Int), .slice A' n c'] ∧ Els e32 wx A' n c' q.csrc ∧ Ext w2 wx)
    case first =>
      by_cases f0 : f6 = 0
      case pos =>
        have g0 : ((fld : Int) % 6 == 0) = true := beq_iff_eq.2 (by omega)
        clear f0 hf6
        go_wp2_with fail
        refine regE_start_at (hR3) (by kernel_rfl) ?_
        have hR := (hR3).drew
        replace hbg := hbg.drew
        generalize hgw : (w3).drew = wr0 at *
        clear hgw
        refine regE_take (i := 0) (v := ?_) rfl (by kernel_rfl) (by kernel_rfl) (by kernel_rfl) (fun _ _ _ h => h) (by rfl) ?_ ?_
        rotate_left
        · intro W hW; go_simp; try with_reducible rfl
        simp only [Act.put, List.setIfInBounds_toArray, List.set_cons_zero, List.set_cons_succ]
        refine regE_take (i := 1) (v := ?_) rfl (by kernel_rfl) (by kernel_rfl) (by kernel_rfl) (fun _ _ _ h => h) (by rfl) ?_ ?_
        rotate_left
        · intro W hW; obtain ⟨⟨u0, u1, u2, u3, u4, u5, u6, u7⟩, _, _⟩ := (hbk.below hW hbk.lt).eight; go_simp; try with_reducible rfl
        simp only [Act.put, List.setIfInBounds_toArray, List.set_cons_zero, List.set_cons_succ]
        refine regE_take (i := 2) (v := ?_) rfl (by kernel_rfl) (by kernel_rfl) (by kernel_rfl) (fun _ _ _ h => h) (by rfl) ?_ ?_
        rotate_left
        · intro W hW; go_simp; try with_reducible rfl
        simp only [Act.put, List.setIfInBounds_toArray, List.set_cons_zero, List.set_cons_succ]
        refine regE_take (i := 3) (v := ?_) rfl (by kernel_rfl) (by kernel_rfl) (by kernel_rfl) (fun _ _ _ h => h) (by rfl) ?_ ?_
        rotate_left
        · intro W hW; obtain ⟨⟨u0, u1, u2, u3, u4, u5, u6, u7⟩, _, _⟩ := (hbk.below hW hbk.lt).eight; go_simp; try with_reducible rfl
        simp only [Act.put, List.setIfInBounds_toArray, List.set_cons_zero, List.set_cons_succ]
        refine regE_take (i := 4) (v := ?_) rfl (by kernel_rfl) (by kernel_rfl) (by kernel_rfl) (fun _ _ _ h => h) (by rfl) ?_ ?_
        rotate_left
        · intro W hW; go_simp; try with_reducible rfl
        simp only [Act.put, List.setIfInBounds_toArray, List.set_cons_zero, List.set_cons_succ]
        refine regE_do (i := 5) rfl (by kernel_rfl) (fun K hK => ?_)
        rw [if_pos (by rfl)]
        have uS := hbg.cell 0
        have vS := hbg.frozen 0
        simp at uS
        go_simp
        refine hK.out _ _ (hR.setCell (p := ⟨g, 0, none⟩) hge _) ?_
        clear hK K uS vS
        replace hR := hR.setCell (p := ⟨g, 0, none⟩) hge (.bool k.pad)
        replace hbg := hbg.set_ 0 (.bool k.pad)
        simp only [List.setIfInBounds_toArray, List.set_cons_zero] at hbg
        generalize hgw : wr0.setCell ⟨g, 0, none⟩ (.bool k.pad) = wr1 at *
        clear hgw
        try simp only [Act.put, List.setIfInBounds_toArray, List.set_cons_zero, List.set_cons_succ]
        refine regE_take (i := 6) (v := ?_) rfl (by kernel_rfl) (by kernel_rfl) (by kernel_rfl) (fun _ _ _ h => h) (by rfl) ?_ ?_
        rotate_left
        · intro W hW; go_simp; try with_reducible rfl
        simp only [Act.put, List.setIfInBounds_toArray, List.set_cons_zero, List.set_cons_succ]
        refine regE_do (i := 7) rfl (by kernel_rfl) (fun K hK => ?_)
        rw [if_pos (by rfl)]
        have uS := hbg.cell 1
        have vS := hbg.frozen 1
        simp at uS
        go_simp
        refine hK.out _ _ (hR.setCell (p := ⟨g, 1, none⟩) hge _) ?_
        clear hK K uS vS
        replace hR := hR.setCell (p := ⟨g, 1, none⟩) hge (.bool k.ext)
        replace hbg := hbg.set_ 1 (.bool k.ext)
        simp only [List.setIfInBounds_toArray, List.set_cons_zero, List.set_cons_succ] at hbg
        generalize hgw : wr1.setCell ⟨g, 1, none⟩ (.bool k.ext) = wr2 at *
        clear hgw
        try simp only [Act.put, List.setIfInBounds_toArray, List.set_cons_zero, List.set_cons_succ]
        refine regE_done (by kernel_rfl) ?_
        go_wp2_with fail
        go_meet
        case rel => exact ⟨0, 1, { h with pad := k.pad, ext := k.ext }, A, c, rfl, rfl, by omega, by omega, hDiff0 h _ _, hbg, hh.ext hR, hR⟩
      by_cases f1 : f6 = 1
      case pos =>
        have g0 : ((fld : Int) % 6 == 0) = false := beq_eq_false_iff_ne.2 (by omega)
        have g1 : ((fld : Int) % 6 == 1) = true := beq_iff_eq.2 (by omega)
        clear f0 f1 hf6
        go_wp2_with fail
        refine regE_start_at (hR3) (by kernel_rfl) ?_
        have hR := (hR3).drew
        replace hbg := hbg.drew
        generalize hgw : (w3).drew = wr0 at *
        clear hgw
        refine regE_take (i := 0) (v := ?_) rfl (by kernel_rfl) (by kernel_rfl) (by kernel_rfl) (fun _ _ _ h => h) (by rfl) ?_ ?_
        rotate_left
        · intro W hW; go_simp; try with_reducible rfl
        simp only [Act.put, List.setIfInBounds_toArray, List.set_cons_zero, List.set_cons_succ]
        refine regE_take (i := 1) (v := ?_) rfl (by kernel_rfl) (by kernel_rfl) (by kernel_rfl) (fun _ _ _ h => h) (by rfl) ?_ ?_
        rotate_left
        · intro W hW; obtain ⟨⟨u0, u1, u2, u3, u4, u5, u6, u7⟩, _, _⟩ := (hbk.below hW hbk.lt).eight; go_simp; try with_reducible rfl
        simp only [Act.put, List.setIfInBounds_toArray, List.set_cons_zero, List.set_cons_succ]
        refine regE_take (i := 2) (v := ?_) rfl (by kernel_rfl) (by kernel_rfl) (by kernel_rfl) (fun _ _ _ h => h) (by rfl) ?_ ?_
        rotate_left
        · intro W hW; go_simp; try with_reducible rfl
        simp only [Act.put, List.setIfInBounds_toArray, List.set_cons_zero, List.set_cons_succ]
        refine regE_take (i := 3) (v := ?_) rfl (by kernel_rfl) (by kernel_rfl) (by kernel_rfl) (fun _ _ _ h => h) (by rfl) ?_ ?_
        rotate_left
        · intro W hW; obtain ⟨⟨u0, u1, u2, u3, u4, u5, u6, u7⟩, _, _⟩ := (hbk.below hW hbk.lt).eight; go_simp; try with_reducible rfl
        simp only [Act.put, List.setIfInBounds_toArray, List.set_cons_zero, List.set_cons_succ]
        refine regE_take (i := 4) (v := ?_) rfl (by kernel_rfl) (by kernel_rfl) (by kernel_rfl) (fun _ _ _ h => h) (by rfl) ?_ ?_
        rotate_left
        · intro W hW; go_simp; try with_reducible rfl
        simp only [Act.put, List.setIfInBounds_toArray, List.set_cons_zero, List.set_cons_succ]
        refine regE_do (i := 5) rfl (by kernel_rfl) (fun K hK => ?_)
        rw [if_pos (by rfl)]
        have uS := hbg.cell 2
        have vS := hbg.frozen 2
        simp at uS
        go_simp
        refine hK.out _ _ (hR.setCell (p := ⟨g, 2, none⟩) hge _) ?_
        clear hK K uS vS
        replace hR := hR.setCell (p := ⟨g, 2, none⟩) hge (.bool k.mark)
        replace hbg := hbg.set_ 2 (.bool k.mark)
        simp only [List.setIfInBounds_toArray, List.set_cons_zero, List.set_cons_succ] at hbg
        generalize hgw : wr0.setCell ⟨g, 2, none⟩ (.bool k.mark) = wr1 at *
        clear hgw
        try simp only [Act.put, List.setIfInBounds_toArray, List.set_cons_zero, List.set_cons_succ]
        refine regE_take (i := 6) (v := ?_) rfl (by kernel_rfl) (by kernel_rfl) (by kernel_rfl) (fun _ _ _ h => h) (by rfl) ?_ ?_
        rotate_left
        · intro W hW; go_simp; try with_reducible rfl
        simp only [Act.put, List.setIfInBounds_toArray, List.set_cons_zero, List.set_cons_succ]
        refine regE_do (i := 7) rfl (by kernel_rfl) (fun K hK => ?_)
        rw [if_pos (by rfl)]
        have uS := hbg.cell 3
        have vS := hbg.frozen 3
        simp at uS
        go_simp
        refine hK.out _ _ (hR.setCell (p := ⟨g, 3, none⟩) hge _) ?_
        clear hK K uS vS
        replace hR := hR.setCell (p := ⟨g, 3, none⟩) hge (.int .i64 k.typ)
        replace hbg := hbg.set_ 3 (.int .i64 k.typ)
        simp only [List.setIfInBounds_toArray, List.set_cons_zero, List.set_cons_succ] at hbg
        generalize hgw : wr1.setCell ⟨g, 3, none⟩ (.int .i64 k.typ) = wr2 at *
        clear hgw
        try simp only [Act.put, List.setIfInBounds_toArray, List.set_cons_zero, List.set_cons_succ]
        refine regE_done (by kernel_rfl) ?_
        go_wp2_with fail
        go_meet
        case rel => exact ⟨1, 2, { h with mark := k.mark, typ := k.typ }, A, c, rfl, rfl, by omega, by omega, hDiff1 h _ _, hbg, hh.ext hR, hR⟩
      by_cases f2 : f6 = 2
      case pos =>
        have g0 : ((fld : Int) % 6 == 0) = false := beq_eq_false_iff_ne.2 (by omega)
        have g1 : ((fld : Int) % 6 == 1) = false := beq_eq_false_iff_ne.2 (by omega)
        have g2 : ((fld : Int) % 6 == 2) = true := beq_iff_eq.2 (by omega)
        clear f0 f1 f2 hf6
        obtain ⟨⟨v0, v1, v2, v3, v4, v5, v6, v7⟩, vf, hvl⟩ := hbg.eight
        obtain ⟨⟨y0, y1, y2, y3, y4, y5, y6, y7⟩, _, _⟩ := (hbk.below hR3 hbk.lt).eight
        have hbg2 := hbg.set_ 4 (.int .u16 (k.seq.toNat : Int))
        simp only [List.setIfInBounds_toArray, List.set_cons_zero, List.set_cons_succ] at hbg2
        have hR4 := hR3.setCell (p := ⟨g, 4, none⟩) hge (.int .u16 (k.seq.toNat : Int))
        go_wp2_with fail
        go_meet
        case rel => exact ⟨2, 4, { h with seq := k.seq }, A, c, rfl, rfl, by omega, by omega, hDiff2 h _, hbg2, hh.ext hR4, hR4⟩
      by_cases f3 : f6 = 3
      case pos =>
        have g0 : ((fld : Int) % 6 == 0) = false := beq_eq_false_iff_ne.2 (by omega)
        have g1 : ((fld : Int) % 6 == 1) = false := beq_eq_false_iff_ne.2 (by omega)
        have g2 : ((fld : Int) % 6 == 2) = false := beq_eq_false_iff_ne.2 (by omega)
        have g3 : ((fld : Int) % 6 == 3) = true := beq_iff_eq.2 (by omega)
        clear f0 f1 f2 f3 hf6
        obtain ⟨⟨v0, v1, v2, v3, v4, v5, v6, v7⟩, vf, hvl⟩ := hbg.eight
        obtain ⟨⟨y0, y1, y2, y3, y4, y5, y6, y7⟩, _, _⟩ := (hbk.below hR3 hbk.lt).eight
        have hbg2 := hbg.set_ 5 (.int .u32 (k.time.toNat : Int))
        simp only [List.setIfInBounds_toArray, List.set_cons_zero, List.set_cons_succ] at hbg2
        have hR4 := hR3.setCell (p := ⟨g, 5, none⟩) hge (.int .u32 (k.time.toNat : Int))
        go_wp2_with fail
        go_meet
        case rel => exact ⟨4, 8, { h with time := k.time }, A, c, rfl, rfl, by omega, by omega, hDiff3 h _, hbg2, hh.ext hR4, hR4⟩
      by_cases f4 : f6 = 4
      case pos =>
        have g0 : ((fld : Int) % 6 == 0) = false := beq_eq_false_iff_ne.2 (by omega)
        have g1 : ((fld : Int) % 6 == 1) = false := beq_eq_false_iff_ne.2 (by omega)
        have g2 : ((fld : Int) % 6 == 2) = false := beq_eq_false_iff_ne.2 (by omega)
        have g3 : ((fld : Int) % 6 == 3) = false := beq_eq_false_iff_ne.2 (by omega)
        have g4 : ((fld : Int) % 6 == 4) = true := beq_iff_eq.2 (by omega)
        clear f0 f1 f2 f3 f4 hf6
        obtain ⟨⟨v0, v1, v2, v3, v4, v5, v6, v7⟩, vf, hvl⟩ := hbg.eight
        obtain ⟨⟨y0, y1, y2, y3, y4, y5, y6, y7⟩, _, _⟩ := (hbk.below hR3 hbk.lt).eight
        have hbg2 := hbg.set_ 6 (.int .u32 (k.ssrc.toNat : Int))
        simp only [List.setIfInBounds_toArray, List.set_cons_zero, List.set_cons_succ] at hbg2
        have hR4 := hR3.setCell (p := ⟨g, 6, none⟩) hge (.int .u32 (k.ssrc.toNat : Int))
        go_wp2_with fail
        go_meet
        case rel => exact ⟨8, 12, { h with ssrc := k.ssrc }, A, c, rfl, rfl, by omega, by omega, hDiff4 h _, hbg2, hh.ext hR4, hR4⟩
      have g0 : ((fld : Int) % 6 == 0) = false := beq_eq_false_iff_ne.2 (by omega)
      have g1 : ((fld : Int) % 6 == 1) = false := beq_eq_false_iff_ne.2 (by omega)
      have g2 : ((fld : Int) % 6 == 2) = false := beq_eq_false_iff_ne.2 (by omega)
      have g3 : ((fld : Int) % 6 == 3) = false := beq_eq_false_iff_ne.2 (by omega)
      have g4 : ((fld : Int) % 6 == 4) = false := beq_eq_false_iff_ne.2 (by omega)
      clear f0 f1 f2 f3 f4 hf6
      obtain ⟨⟨u0, u1, u2, u3, u4, u5, u6, u7⟩, _, hlx⟩ := (hbx.below hR3 hbx.lt).eight
      by_cases hn0 : n = 0
      · subst hn0
        go_wp2_with fail
        go_meet
        case rel => exact ⟨12, 16, h, A, c, rfl, rfl, by omega, by omega, hDiff_self h _ _, hbg, hh.ext hR3, hR3⟩
      · have hn1 : (0 : Int) < (n : Int) := by omega
        obtain ⟨T⟩ := ty32
        have hln := hh.len
        obtain ⟨x0, l, hxl⟩ : ∃ x0 l, h.csrc = x0 :: l := by
          cases hc : h.csrc with
          | nil => rw [hc] at hln; exact absurd hln.symm hn0
          | cons x0 l => exact ⟨x0, l, rfl⟩
        have hh3 := hh.ext hR3
        have hgk : g ≠ w.heap.size + 1 := by have := hbk.lt; omega
        have hgk2 : w.heap.size + 1 ≠ g := Ne.symm hgk
        have HXL := hide hxl
        have hD := hide (hDiff5 h k.ssrc x0 l hxl)
        have hsz3 : g < w3.heap.size := hbg.lt
        clear hxl hln
        go_wp2_with (at_builtin; refine wpList_appE T w3 _ _ rfl rfl ((Ext.refl _).alloc _) _ _ _ _ rfl (own_noneE _ _) A n c h.csrc rfl (hh3.alloc _) (by omega) ?_; intro A5 c5 w5 O5 hE5 _; rw [Nat.zero_add, List.nil_append, HXL.out] at O5; have hbg5 := hbg.below hE5 hbg.lt; obtain ⟨⟨v0, v1, v2, v3, v4, v5, v6, v7⟩, vf, hvl⟩ := hbg5.eight; obtain ⟨y0, y1, y2, y3, y4, y5, y6, y7⟩ := ((hbk.below hR3 hbk.lt).below hE5 (by have := hbk.lt; have := hR3.size; omega)).eight.1; have O6 := own_set O5 (p := ⟨g, 7, none⟩) (fun e => by have := own_ge O5 _ e; exact absurd this (by show ¬ w3.heap.size ≤ g; omega)) (.slice A5 n c5); obtain ⟨g6, u, hA6, hb6, hl6, hc6, hf6, O7⟩ := own_set0 k.ssrc O6; subst hA6; have hg6 : g6 ≠ g := (by omega); have hg6b : g ≠ g6 := Ne.symm hg6)
        go_meet
        case rel =>
          have hb7 := (hbg5.set_ 7 (.slice (some ⟨g6, 0, none⟩) n c5))
          simp only [List.setIfInBounds_toArray, List.set_cons_zero, List.set_cons_succ] at hb7
          exact ⟨12, 16, { h with csrc := k.ssrc :: l }, some ⟨g6, 0, none⟩, c5, rfl, rfl, by omega, by omega, hD.out, hb7.far (p := ⟨g6, 0, none⟩) hg6b _, Els.own (E := e32) O7, ((hR3.trans hE5).setCell (p := ⟨g, 7, none⟩) hge _).setCell (p := ⟨g6, 0, none⟩) (by show w2.heap.size ≤ g6; have := hR3.size; omega) _⟩
    case rest =>
      obtain ⟨f, t, q, A', c', rfl, rfl, hf12, ht16, hD, hbg, hq, hR⟩ := hcut
      replace hE := hE.trans hR
      replace hh := hh.ext hR
      replace hX := hX.ext hR
      replace hbx := hbx.below hR hbx.lt
      clear hR hbk hk
      obtain ⟨r2, hr2⟩ : ∃ r, hRight q.typ n = r := ⟨_, rfl⟩
      have S2 := hide (fun W hq => hwrite_gen q A' c' n W hq r2 hr2)
      have S3 := hide (fun W => hright_B q A' n c' W r2 hr2)
      have HR2 := hide hr2
      have HD := hide hD
      clear hr2 hD
      obtain ⟨⟨u0, u1, u2, u3, u4, u5, u6, u7⟩, _, hl7⟩ := hbg.eight
      go_wp2_with fail
      refine (S2.out _ hq).mono ?_
      rintro e w4 ⟨Ay, Ny, cy, y, Ey, rfl, hY, hy2, hn2, hE2⟩
      have HY2 := hide hy2
      have HN2 := hide hn2
      clear u0 u1 u2 u3 u4 u5 u6 u7 hl7
      replace hE := hE.trans hE2
      replace hh := hh.ext hE2
      replace hX := hX.ext hE2
      replace hq := hq.ext hE2
      replace hbx := hbx.below hE2 hbx.lt
      replace hbg := hbg.below hE2 hbg.lt
      clear hE2 S2 hy2 hn2
      cases hr1 : r1
      · obtain ⟨rfl, rfl⟩ := HN1.out hr1
        clear HY1 HN1 HY2 HN2
        go_wp2_with fail
        go_ret
        exact ⟨rfl, hE⟩
      · obtain ⟨eN1, rfl, ex1⟩ := HY1.out hr1
        cases hr2 : r2
        · obtain ⟨rfl, rfl⟩ := HN2.out hr2
          subst hr1 hr2
          clear HY1 HN1 HY2 HN2 eN1 ex1
          obtain ⟨⟨u0, u1, u2, u3, u4, u5, u6, u7⟩, _, hl7⟩ := hbg.eight
          go_wp2_with fail
          refine (S3.out _).mono ?_
          rintro e w5 ⟨rfl, hE2⟩
          go_wp2_with fail
          go_ret
          exact ⟨rfl, hE.trans hE2⟩
        · obtain ⟨eN2, rfl, ex2⟩ := HY2.out hr2
          obtain ⟨hr1a, hlh⟩ := HR1.out
          have hr2a := HR2.out
          rw [hr1] at hr1a
          rw [hr2] at hr2a
          have hlq := hq.len
          have hinj := hBytes_inj h q (by rw [hlh]; exact hr1a) (by rw [hlq]; exact hr2a)
          rw [← ex1, ← ex2] at hinj
          obtain ⟨s, hs⟩ : ∃ s, hSame h q = s := ⟨_, rfl⟩
          rw [hs] at hinj
          have hdf := HD.out.2
          rw [← ex1, ← ex2] at hdf
          have HS := hide hs
          have HI := hide hinj
          have HDF := hide hdf
          obtain rfl : Ny = Nx := by omega
          have hN12 : 12 ≤ Ny := by omega
          have hN3 : Ny ≤ 408 := by omega
          have hyl := hY.le
          have hyc := hY.reach
          have hxl := hX.le
          have hxc := hX.reach
          clear hr1 hr2 HY1 HN1 HY2 HN2 eN1 ex1 eN2 ex2 hr1a hr2a hlh hlq hinj hs hdf S3 HD HR1 HR2
          go_wp2_with fail
          go_loopw [14] (fun i wr => ∃ j : Nat, j ≤ Ny ∧ i = .int .i64 j ∧ Ext w4 wr) (fun i _ => Ny - (intOf i).toNat)
          case atStart => exact ⟨0, Nat.zero_le _, rfl, Ext.refl _⟩
          case round =>
            obtain ⟨j, hj, rfl, hJ⟩ := hrel
            by_cases hlt : j < Ny
            · obtain ⟨gx, ox, rfl, hgx⟩ := hX.form (by omega)
              obtain ⟨gy, oy, rfl, hgy⟩ := hY.form (by omega)
              have cx0 := (hX.ext hJ).cellAt j hlt
              have cy0 := (hY.ext hJ).cellAt j hlt
              have hjn : (j : Int) < (Ny : Int) := by omega
              by_cases k1 : j < f
              · have he := HDF.out j (.inl k1)
                rw [he] at cx0
                generalize (y.getD j 0).toNat = v at cx0 cy0
                have d1 : decide ((j : Int) < (f : Int)) = true := decide_eq_true (by omega)
                have d1n : decide (j < f) = true := decide_eq_true k1
                clear he
                go_wp2_with fail
                go_quiet (fail)
                go_wp2_with fail
                go_roundw
                case rel => exact ⟨j + 1, by omega, by go_num, hJ.drewN _⟩
                case measure => simp [intOf]; omega
              · by_cases k2 : t ≤ j
                · have he := HDF.out j (.inr k2)
                  rw [he] at cx0
                  generalize (y.getD j 0).toNat = v at cx0 cy0
                  have d1 : decide ((j : Int) < (f : Int)) = false := decide_eq_false (by omega)
                  have d1n : decide (j < f) = false := decide_eq_false k1
                  have d2 : decide ((t : Int) ≤ (j : Int)) = true := decide_eq_true (by omega)
                  have d2n : decide (t ≤ j) = true := decide_eq_true k2
                  clear he
                  go_wp2_with fail
                  go_quiet (fail)
                  go_wp2_with fail
                  go_roundw
                  case rel => exact ⟨j + 1, by omega, by go_num, hJ.drewN _⟩
                  case measure => simp [intOf]; omega
                · have d1 : decide ((j : Int) < (f : Int)) = false := decide_eq_false (by omega)
                  have d1n : decide (j < f) = false := decide_eq_false k1
                  have d2 : decide ((t : Int) ≤ (j : Int)) = false := decide_eq_false (by omega)
                  have d2n : decide (t ≤ j) = false := decide_eq_false k2
                  go_wp2_with fail
                  go_quiet (fail)
                  go_wp2_with fail
                  go_roundw
                  case rel => exact ⟨j + 1, by omega, by go_num, hJ.drewN _⟩
                  case measure => simp [intOf]; omega
            · obtain rfl : j = Ny := by omega
              replace hE := hE.trans hJ
              replace hh := hh.ext hJ
              replace hX := hX.ext hJ
              replace hY := hY.ext hJ
              replace hq := hq.ext hJ
              replace hbx := hbx.below hJ hbx.lt
              replace hbg := hbg.below hJ hbg.lt
              clear hJ
              go_wp2_with fail
              have hxy := HI.out
              have hss : (s == s) = true := by cases s <;> rfl
              refine regE_start (by kernel_rfl) ?_
              have hR := (Ext.refl wr).drew
              generalize hgw : (wr).drew = wr0 at *
              clear hgw
              refine regE_take (i := 0) (v := ?_) rfl (by kernel_rfl) (by kernel_rfl) (by kernel_rfl) (fun _ _ _ h => h) (by rfl) ?_ ?_
              rotate_left
              · intro W hW; go_simp; try with_reducible rfl
              simp only [Act.put, List.setIfInBounds_toArray, List.set_cons_zero, List.set_cons_succ]
              refine regE_take (i := 1) (v := ?_) rfl (by kernel_rfl) (by kernel_rfl) (by kernel_rfl) (fun _ _ _ h => h) (by rfl) ?_ ?_
              rotate_left
              · intro W hW; have s1 := run_str (hX.ext hW); go_simp; try with_reducible rfl
              simp only [Act.put, List.setIfInBounds_toArray, List.set_cons_zero, List.set_cons_succ]
              refine regE_take (i := 2) (v := ?_) rfl (by kernel_rfl) (by kernel_rfl) (by kernel_rfl) (fun _ _ _ h => h) (by rfl) ?_ ?_
              rotate_left
              · intro W hW; go_simp; try with_reducible rfl
              simp only [Act.put, List.setIfInBounds_toArray, List.set_cons_zero, List.set_cons_succ]
              refine regE_take (i := 3) (v := ?_) rfl (by kernel_rfl) (by kernel_rfl) (by kernel_rfl) (fun _ _ _ h => h) (by rfl) ?_ ?_
              rotate_left
              · intro W hW; have s1 := run_str (hY.ext hW); go_simp; try with_reducible rfl
              simp only [Act.put, List.setIfInBounds_toArray, List.set_cons_zero, List.set_cons_succ]
              refine regE_take (i := 4) (v := ?_) rfl (by kernel_rfl) (by kernel_rfl) (by kernel_rfl) (fun _ _ _ h => h) (by rfl) ?_ ?_
              rotate_left
              · intro W hW; go_simp; try with_reducible rfl
              simp only [Act.put, List.setIfInBounds_toArray, List.set_cons_zero, List.set_cons_succ]
              refine regE_take (i := 5) (v := ?_) rfl (by kernel_rfl) (by kernel_rfl) (by kernel_rfl) (fun _ _ _ h => h) (by rfl) ?_ ?_
              rotate_left
              · intro W hW; obtain ⟨⟨u0, u1, u2, u3, u4, u5, u6, u7⟩, _, _⟩ := (hbx.below hW hbx.lt).eight; go_simp; try with_reducible rfl
              simp only [Act.put, List.setIfInBounds_toArray, List.set_cons_zero, List.set_cons_succ]
              refine regE_take (i := 6) (v := ?_) rfl (by kernel_rfl) (by kernel_rfl) (by kernel_rfl) (fun _ _ _ h => h) (by rfl) ?_ ?_
              rotate_left
              · intro W hW; obtain ⟨⟨u0, u1, u2, u3, u4, u5, u6, u7⟩, _, _⟩ := (hbg.below hW hbg.lt).eight; go_simp; try with_reducible rfl
              simp only [Act.put, List.setIfInBounds_toArray, List.set_cons_zero, List.set_cons_succ]
              refine regE_do (i := 7) rfl (by kernel_rfl) (fun K hK => ?_)
              rw [if_pos (by rfl)]
              go_simp
              refine (rsame_any h q _ _ _ _ _ _ _ (hh.ext hR) (hq.ext hR) s HS.out).mono ?_
              rintro e wr1 ⟨rfl, hXX⟩
              refine hK.out _ _ (hR.trans hXX) ?_
              clear hK K
              replace hR := hR.trans hXX
              clear hXX
              try simp only [Act.put, List.setIfInBounds_toArray, List.set_cons_zero, List.set_cons_succ]
              refine regE_take (i := 8) (v := ?_) rfl (by kernel_rfl) (by kernel_rfl) (by kernel_rfl) (fun _ _ _ h => h) (by rfl) ?_ ?_
              rotate_left
              · intro W hW; go_simp; try with_reducible rfl
              simp only [Act.put, List.setIfInBounds_toArray, List.set_cons_zero, List.set_cons_succ]
              refine regE_take (i := 9) (v := ?_) rfl (by kernel_rfl) (by kernel_rfl) (by kernel_rfl) (fun _ _ _ h => h) (by rfl) ?_ ?_
              rotate_left
              · intro W hW; go_simp; try with_reducible rfl
              simp only [Act.put, List.setIfInBounds_toArray, List.set_cons_zero, List.set_cons_succ]
              refine regE_done (by kernel_rfl) ?_
              go_wp2_with fail
              go_ret
              exact ⟨rfl, hE.trans hR⟩
end Go.Proofs.Ytiamcdbnhmlhaaa

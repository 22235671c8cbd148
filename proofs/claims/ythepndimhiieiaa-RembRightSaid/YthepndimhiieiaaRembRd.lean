/- remb.Read: the walk. -/
import Derived.Test.YthepndimhiieiaaRembW
import Derived.Test.YthepndimhiieiaaBK
import Derived.Test.YthepndimhiieiaaChunk
import Derived.Test.YthepndimhiieiaaRegIn
namespace Go.Proofs.Ythepndimhiieiaa
open Go.RowKit Go.Shelf
attribute [local go_sem] Oper.semAt_some
theorem getV_lt3 (b : List UInt8) (h : 8 ≤ b.length) : getV b 5 3 < 16777216 := by
  have h := getV_lt (l := b) (at_ := 5) (n := 3) (getE_of (by omega) (by omega) (by omega) (by omega))
  rwa [show (256 : Nat) ^ (3 : Int).toNat = 16777216 from rfl] at h
set_option maxRecDepth 100000 in
set_option maxHeartbeats 2000000 in
theorem read17_ok (m g o n c : Nat) (b : List UInt8) (w : World) (hb : Bytes w (some ⟨g, o, none⟩) n c b) (hn : 8 + 4 * m = n) (hN : n ≤ 65520) (ht : b.take 4 = [82, 69, 77, 66]) (h4 : (b.getD 4 0).toNat = m)
    (X M : Nat) (hX : lsX (getV b 5 3 / 262144) (getV b 5 3 % 262144) = X) (hM : lsM (getV b 5 3 / 262144) (getV b 5 3 % 262144) = M) : Calls Try.prog 47 #[.slice (some ⟨g, o, none⟩) n c] w fun e w' =>
    ∃ A' c', e = .returned (.tuple #[.agg #[.int .i64 (X : Int), .int .u32 (M : Int), .slice A' m c'], .int .i64 0]) ∧ Els e32 w' A' m c' (cs m (b.drop 8)) ∧ Ext w w' := by
  obtain ⟨T⟩ := ty32
  have hlen := hb.len
  have hnc := hb.le
  have hcm := hb.reach
  refine (callsIn_wide (n := 5)).1 ?_
  have hv3 := getV_lt3 b (by omega)
  have hm255 : m < 256 := by have := (b.getD 4 0).toNat_lt; omega
  obtain ⟨p, hp⟩ : ∃ p, getV b 5 3 / 262144 = p := ⟨_, rfl⟩
  obtain ⟨q, hq⟩ : ∃ q, getV b 5 3 % 262144 = q := ⟨_, rfl⟩
  have ST := hide (fun W h => told17 (some ⟨g, o, none⟩) n c b W h (by omega) p q hp hq)
  rw [hp, hq] at hX hM
  have SL := hide (fun W => least17 p q (by omega) (by omega) X M hX hM W)
  have hP := hb.part (lo := 0) (hi := 4) (m := 4) (c' := c) (by omega) (by omega) rfl (by omega) (by omega)
  rw [List.drop_zero, ht, Nat.add_zero] at hP
  have hp8 := hb.part (lo := 8) (hi := n) (m := 4 * m) (c' := c - 8) (by omega) (by omega) (by omega) (by omega) (by omega)
  have s1 := run_str (hP.alloc (.cells #[.int .i64 0, .int .u32 0, .slice none 0 0] 84))
  have c4 := (hb.alloc (.cells #[.int .i64 0, .int .u32 0, .slice none 0 0] 84)).cellAt 4 (by omega)
  rw [h4] at c4
  have hbs : (⟨[82, 69, 77, 66].toArray⟩ : ByteArray) = ⟨#[82, 69, 77, 66]⟩ := rfl
  have d1 : ¬ ((65520 : Int) < (n : Int)) := by omega
  have d2 : ¬ ((0 : Int) < (n : Int) % 4) := by omega
  have d3 : ¬ ((n : Int) < 8) := by omega
  have d4 : (n : Int) / 4 - 2 = (m : Int) := by omega
  have d5 : IntKind.i64.wrap ((n : Int) / 4 - 2) = (m : Int) := by rw [d4, IntWalk.i64_in _ (by omega)]
  clear hv3 hX hM ht h4 hp hq
  refine callsIn_of_wp_marks Try.func47 rfl trivial ?_ rfl
  simp only [Try.ntmps47, List.size_toArray, List.length_cons, List.length_nil, Nat.reduceAdd, Nat.reduceSub, Array.replicate_succ, Array.replicate_zero, List.push_toArray, List.append_toArray, List.nil_append, List.cons_append]
  have hz := Blk.new w 84 #[.int .i64 0, .int .u32 0, .slice none 0 0]
  have hR0 := (Ext.refl w).alloc (.cells #[.int .i64 0, .int .u32 0, .slice none 0 0] 84)
  gi_wp2_with (first | (refine ⟨trivial, ?_⟩; gi_at_call 87; refine (callsIn_wide.2 (ST.out _ ((hb.alloc _).alloc _))).mono ?_; rintro e w' ⟨rfl, rfl⟩) | fail)
  refine ⟨trivial, ?_⟩
  refine (callsIn_wide.2 (SL.out _)).mono ?_
  rintro e w3 ⟨rfl, hE3⟩
  have h5 := Blk.new (w.alloc (.cells #[.int .i64 0, .int .u32 0, .slice none 0 0] 84)) 84 #[.int .i64 0, .int .u32 0, .slice none 0 0]
  replace hz := (hz.alloc (.cells #[.int .i64 0, .int .u32 0, .slice none 0 0] 84)).below hE3 (by simp; omega)
  replace h5 := h5.below hE3 (by simp)
  rw [World.size_alloc] at h5
  have hR := (hR0.alloc _).trans hE3
  clear hR0 hE3 ST SL s1 c4 d1 d2 d3 d4 d5 hbs hP
  obtain ⟨s5, hs5⟩ : ∃ s5, w.heap.size + 1 = s5 := ⟨_, rfl⟩
  rw [hs5] at h5 ⊢
  obtain ⟨⟨u0, u1, u2⟩, uf, hl5⟩ := h5.three
  have hd : Bytes w (if c = 8 then (some ⟨g, o, none⟩ : Option Addr) else some ⟨g, o + 8, none⟩) (4 * m) (c - 8) (b.drop 8) := by
    have := hb.subIf (lo := 8) (hi := n) (by omega) (by omega)
    simp only [Option.map_some, add_base] at this
    rwa [show n - 8 = 4 * m by omega, List.take_of_length_le (by rw [List.length_drop]; omega)] at this
  obtain ⟨o', ho'⟩ : ∃ o', (if c = 8 then (some ⟨g, o, none⟩ : Option Addr) else some ⟨g, o + 8, none⟩) = some ⟨g, o', none⟩ := by split <;> exact ⟨_, rfl⟩
  rw [ho'] at hd
  have e7 : n - 8 = 4 * m := by omega
  have hn8 : (8 : Int) ≤ (n : Int) := by omega
  have h5s := (h5.set_ 0 (.int .i64 (X : Int))).set_ 1 (.int .u32 (M : Int))
  simp only [List.setIfInBounds_toArray, List.set_cons_zero, List.set_cons_succ] at h5s
  have hzs := (hz.far (p := ⟨s5, 0, none⟩) (by show w.heap.size ≠ s5; omega) (.int .i64 (X : Int))).far (p := ⟨s5, 1, none⟩) (by show w.heap.size ≠ s5; omega) (.int .u32 (M : Int))
  have hRs := (hR.setCell (p := ⟨s5, 0, none⟩) (by show w.heap.size ≤ s5; omega) (.int .i64 (X : Int))).setCell (p := ⟨s5, 1, none⟩) (by show w.heap.size ≤ s5; omega) (.int .u32 (M : Int))
  gi_wp2_with (refine ⟨trivial, ?_⟩; gi_at_call 88; refine (chunk_in _ _ _ _ _).mono ?_; rintro e w' ⟨rfl, rfl⟩)
  have hs3 : ((w3.setCell ⟨s5, 0, none⟩ (.int .i64 (X : Int))).setCell ⟨s5, 1, none⟩ (.int .u32 (M : Int))).heap.size = w3.heap.size := by simp
  rw [← hs3]
  generalize hgw : (w3.setCell ⟨s5, 0, none⟩ (.int .i64 (X : Int))).setCell ⟨s5, 1, none⟩ (.int .u32 (M : Int)) = w4 at *
  clear hs3 hgw u0 u1 u2 uf hl5 h5 hz hR
  obtain ⟨s, hs⟩ : ∃ s, w4.heap.size = s := ⟨_, rfl⟩
  have s5s : s5 < s := by rw [← hs]; exact h5s.lt
  have b5 := (h5s.alloc (.cells #[.slice (some ⟨g, o', none⟩) (4 * m) (c - 8)] 25)).alloc (.cells #[.int .i64 4] 3)
  have bz := (hzs.alloc (.cells #[.slice (some ⟨g, o', none⟩) (4 * m) (c - 8)] 25)).alloc (.cells #[.int .i64 4] 3)
  have bS := (Blk.new w4 25 #[.slice (some ⟨g, o', none⟩) (4 * m) (c - 8)]).alloc (.cells #[.int .i64 4] 3)
  have bN := Blk.new (w4.alloc (.cells #[.slice (some ⟨g, o', none⟩) (4 * m) (c - 8)] 25)) 3 #[.int .i64 4]
  have hE : Ext w ((w4.alloc (.cells #[.slice (some ⟨g, o', none⟩) (4 * m) (c - 8)] 25)).alloc (.cells #[.int .i64 4] 3)) := (hRs.alloc _).alloc _
  have hsz : ((w4.alloc (.cells #[.slice (some ⟨g, o', none⟩) (4 * m) (c - 8)] 25)).alloc (.cells #[.int .i64 4] 3)).heap.size = s + 2 := by simp; omega
  simp only [World.size_alloc] at bN
  rw [hs] at bS bN ⊢
  generalize ((w4.alloc (.cells #[.slice (some ⟨g, o', none⟩) (4 * m) (c - 8)] 25)).alloc (.cells #[.int .i64 4] 3)) = W0 at *
  have hcb1 : W0.cell? ⟨s, 0, none⟩ = some (.slice (some ⟨g, o', none⟩) (4 * m) (c - 8)) := bS.cell 0
  have hcb2 : W0.cell? ⟨s + 1, 0, none⟩ = some (.int .i64 4) := bN.cell 0
  clear hs h5s hzs hRs e7 ho' hn8
  refine wpIn_rangeFunc_ownF rfl (by omega) (gf := 102) (lb := #[.pointer (some ⟨s, 0, none⟩), .pointer (some ⟨s + 1, 0, none⟩)]) rfl trivial (enters_of Try.func102 (by kernel_rfl) rfl)
    (chunk_stops (5 - 1) (by omega) s (s + 1) m (c - 8) g o' (by omega) (by omega) (by omega) W0 (by omega) (by omega) hcb1 hcb2)
    KpBox.trans (fun W l o o' _ hl ho _ => KpBox.book W l o o' hl ho) (Below.refl _ _) (fun _ => rfl)
    (fun pre W => (∃ A' c', Blk W s5 84 #[.int .i64 (X : Int), .int .u32 (M : Int), .slice A' pre.length c'] ∧
      W.ownsRow w.heap.size 22 e32.size (.slice A' pre.length c') pre.length (e32.cells (pre.map fun x => UInt32.ofNat (val (((b.drop 8).drop (4 * x.1)).take 4)))) ∧
      (∀ b, b < s + 2 → (Value.slice A' pre.length c').ownBlock ≠ some b) ∧ s + 2 ≤ W.heap.size ∧
      Blk W w.heap.size 84 #[.int .i64 0, .int .u32 0, .slice none 0 0] ∧ Blk W s 25 #[.slice (some ⟨g, o', none⟩) (4 * m) (c - 8)] ∧ Blk W (s + 1) 3 #[.int .i64 4]) ∧ Below w.heap.size w W)
    (fun _ _ _ => False)
    (OwnFrom.and (Own.from (fun s A B row hs hg hr => by
      obtain ⟨A', c', h1, h2, h3, h4, h5, h6, h7⟩ := hs
      exact ⟨A', c', h1.kept hg hr, own_books h2 hg hr, h3, Nat.le_trans h4 hg.size, h5.kept hg hr, h6.kept hg hr, h7.kept hg hr⟩) _) (ownFrom_below (Nat.le_refl _) (by have := hE.size; omega)))
    (fun _ _ _ _ _ hs _ _ => hs)
    ⟨⟨none, 0, b5, World.ownsRow_nil _ _ _ _, fun _ _ => by simp [Value.ownBlock], by omega, bz, bS, bN⟩, hE⟩ ?_ ?_ ?_ ?_ ?_
  rotate_left
  · intro l x W K hK
    gi_wp2
    exact hK
  · rintro l pre x W ⟨⟨A', c', h1, h2, h3, h4, hz, hb1, hb2⟩, hB⟩ hplt
    have hx : 4 * x.1 + 4 ≤ 4 * m := by have := x.2; omega
    have hbx := (hd.ext hB).part (lo := 4 * x.1) (hi := 4 * x.1 + 4) (m := 4) (c' := 4) (by omega) hx (by omega) (by omega) (by omega)
    obtain ⟨y, hy⟩ : ∃ y, ((b.drop 8).drop (4 * x.1)).take 4 = y := ⟨_, rfl⟩
    rw [hy] at hbx
    have hyl := hbx.len
    have hyv := val_lt y
    rw [hyl] at hyv
    have S := hide (get_B _ 4 4 _ 0 4 W hbx (val y) (by unfold getV getE; simp [hyl, List.take_of_length_le]) 0 (by unfold getE; simp [hyl]))
    obtain ⟨q, hq⟩ : ∃ q, UInt32.ofNat (val y) = q := ⟨_, rfl⟩
    have hq2 : (val y : Int) % 4294967296 = (q.toNat : Int) := by rw [← hq, UInt32.toNat_ofNat']; omega
    have hcl : e32.cells [q] = [Value.int .u32 ((val y : Int) % 4294967296)] := by rw [hq2]; rfl
    obtain ⟨v, hv⟩ : ∃ v, val y = v := ⟨_, rfl⟩
    rw [hv] at S hcl
    have hQ : UInt32.ofNat (val (((b.drop 8).drop (4 * x.1)).take 4)) = q := by rw [hy]; exact hq
    have HQ := hide hQ
    obtain ⟨N, hN⟩ : ∃ N, pre.length = N := ⟨_, rfl⟩
    have HN := hide hN
    have c2 : W.cell? ⟨s5, 2, none⟩ = some (.slice A' pre.length c') := h1.cell 2
    rw [hN] at h1 h2 h3 hplt c2
    have hNm : N ≤ 255 := by have := hplt; omega
    clear hy hq hyv hQ hbx hN hq2
    generalize hL : (pre.map fun x => UInt32.ofNat (val (((b.drop 8).drop (4 * x.1)).take 4))) = L at h2
    have HLL := hide hL
    clear hL
    gi_wp2_with (first
      | (refine ⟨trivial, ?_⟩; gi_at_call 89; refine (CallsIn.inRound l (callsIn_wide.2 S.out)).mono ?_; rintro e w' ⟨rfl, rfl⟩)
      | (gi_at_builtin; refine wpListIn_appE T w _ _ rfl rfl (Ext.alloc hB _) A' N c' _ rfl (h2.alloc _) _ 1 1 [q] rfl (Els.lit_at (by simp) [q] 22 1 hcl rfl (by omega)) (by omega) ?_; intro A2 c2 w2 hown2 hE2 hg2 hk2; have hb2' := (hk2.blk (h1.alloc _) (h3 s5 (by omega))).1; have hc2 := hb2'.cell 2; have hf2 := hb2'.frozen 2))
    have hl1 : (pre ++ [x]).length = N + 1 := by simp [HN.out]
    have hsz2 : W.heap.size ≤ w2.heap.size := by have := hg2.size; simp at this; omega
    have hap : ∀ b, b < s + 2 → (Value.slice A2 (N + 1) c2).ownBlock ≠ some b := fun b hb => (hk2 b (by simp; omega) (h3 b hb)).1
    have hz2 := (hk2.blk (hz.alloc _) (h3 _ (by omega))).1
    have hB1 := (hk2.blk (hb1.alloc _) (h3 _ (by omega))).1
    have hB2 := (hk2.blk (hb2.alloc _) (h3 _ (by omega))).1
    have hzf := hz2.far (p := ⟨s5, 2, none⟩) (by show w.heap.size ≠ s5; omega) (.slice A2 (N + 1) c2)
    have hB1f := hB1.far (p := ⟨s5, 2, none⟩) (by show s ≠ s5; omega) (.slice A2 (N + 1) c2)
    have hB2f := hB2.far (p := ⟨s5, 2, none⟩) (by show s + 1 ≠ s5; omega) (.slice A2 (N + 1) c2)
    have h1f := hb2'.set_ 2 (.slice A2 (N + 1) c2)
    simp only [List.setIfInBounds_toArray, List.set_cons_zero, List.set_cons_succ] at h1f
    refine ⟨(KeepsOthers.alloc _ _).trans ((KeepsOthers.of_grownBy hg2 (own_isCells (h2.alloc _))).trans (KeepsOthers.setCell _ _ _)), ⟨fun v hv => (hB1f.cell 0).trans ((hb1.cell 0).symm.trans hv), fun v hv => (hB2f.cell 0).trans ((hb2.cell 0).symm.trans hv)⟩, ⟨A2, c2, by rw [hl1]; exact h1f, ?_, by rw [hl1]; exact hap, by simp; omega, hzf, hB1f, hB2f⟩, hE2.setCell (p := ⟨s5, 2, none⟩) (by show w.heap.size ≤ s5; omega) _⟩
    rw [hl1, List.map_append, List.map_singleton, HLL.out, HQ.out]
    exact own_set hown2 (p := ⟨s5, 2, none⟩) (hap s5 (by omega)) _
  · rintro D ys W hD hys ⟨⟨A', c', h1, h2, h3, h4, hz, hb1, hb2⟩, hB⟩ hK
    have hyl : ys.length = m := by
      have := congrArg List.length hys
      simpa using this
    have hcs : (ys.map fun x => UInt32.ofNat (val (((b.drop 8).drop (4 * x.1)).take 4))) = cs m (b.drop 8) := by
      rw [← cs_range, ← hys, List.map_map]
      rfl
    rw [hcs, hyl] at h2
    rw [hyl] at h1
    obtain ⟨⟨u0, u1, u2⟩, _, hl7⟩ := h1.three
    obtain ⟨⟨r0, r1, r2⟩, rf, hlz⟩ := hz.three
    have HYL := hide hyl
    clear hcs hyl hys
    gi_wp2
    have hDne : D ≠ w.heap.size := by have := hE.size; omega
    have hzf : Blk (((W.setCell ⟨w.heap.size, 0, none⟩ (.int .i64 (X : Int))).setCell ⟨w.heap.size, 1, none⟩ (.int .u32 (M : Int))).setCell ⟨w.heap.size, 2, none⟩ (.slice A' m c')) w.heap.size _ _ := ((hz.set_ 0 _).set_ 1 _).set_ 2 _
    simp only [List.setIfInBounds_toArray, List.set_cons_zero, List.set_cons_succ] at hzf
    have hKf : (((W.setCell ⟨w.heap.size, 0, none⟩ (.int .i64 (X : Int))).setCell ⟨w.heap.size, 1, none⟩ (.int .u32 (M : Int))).setCell ⟨w.heap.size, 2, none⟩ (.slice A' m c')).heap[D]? = _ := (show _ = W.heap[D]? by rw [Below.heap_setCell _ _ _ _ hDne, Below.heap_setCell _ _ _ _ hDne, Below.heap_setCell _ _ _ _ hDne]).trans hK
    have hne : (Value.slice A' m c').ownBlock ≠ some w.heap.size := by rw [← HYL.out]; exact h3 w.heap.size (by omega)
    have h2f : (((W.setCell ⟨w.heap.size, 0, none⟩ (.int .i64 (X : Int))).setCell ⟨w.heap.size, 1, none⟩ (.int .u32 (M : Int))).setCell ⟨w.heap.size, 2, none⟩ (.slice A' m c')).ownsRow _ _ _ _ _ _ := own_set (own_set (own_set h2 hne _) hne _) hne _
    have hBf : Ext w (((W.setCell ⟨w.heap.size, 0, none⟩ (.int .i64 (X : Int))).setCell ⟨w.heap.size, 1, none⟩ (.int .u32 (M : Int))).setCell ⟨w.heap.size, 2, none⟩ (.slice A' m c')) := ((Ext.setCell hB (p := ⟨w.heap.size, 0, none⟩) (Nat.le_refl _) _).setCell (p := ⟨w.heap.size, 1, none⟩) (Nat.le_refl _) _).setCell (p := ⟨w.heap.size, 2, none⟩) (Nat.le_refl _) _
    clear u0 u1 u2 r0 r1 r2 rf
    generalize hgw : (((W.setCell ⟨w.heap.size, 0, none⟩ (.int .i64 (X : Int))).setCell ⟨w.heap.size, 1, none⟩ (.int .u32 (M : Int))).setCell ⟨w.heap.size, 2, none⟩ (.slice A' m c')) = Wf at *
    clear hgw
    refine ⟨by simp, .inl ⟨_, _, rfl, run_takeDeferred hKf, ?_⟩⟩
    have hBd : Ext w (Wf.putObj D (.deferred none)) := Below.trans hBf (belowK_b (w := w) (Nat.le_refl _) Wf D _ (.deferred none) (by have := hE.size; omega) hKf rfl rfl)
    have hzd : Blk (Wf.putObj D (.deferred none)) _ _ _ := hzf.grown (grownBy_putObj' Wf D (.deferred none)) (fun e => hDne (by injection e with e; exact e.symm))
    have h2d := Els.own (E := e32) (ownsRow_putObj h2f (.deferred none) hKf rfl)
    obtain ⟨⟨u0, u1, u2⟩, _, _⟩ := hzd.three
    refine ⟨.tuple #[.agg #[(.int .i64 (X : Int)), (.int .u32 (M : Int)), (.slice A' m c')], .int .i64 0], by simp [results, Try.results47, go_sem, u0, u1, u2], A', c', rfl, h2d, hBd⟩
  · rintro D c pre W _ _ h _
    exact h.elim
end Go.Proofs.Ythepndimhiieiaa

/- The document's Find of layer 23: the walk. -/
import Derived.Test.YtcdacnhggpfnaaaVp8X1
import Derived.Test.YtcdacnhggpfnaaaPlainVp8F
import Derived.Deep.DeepCutAuto
import Derived.RegionTactic
import Derived.BigRegion
import Derived.Laws.CopyOwn
namespace Go.Proofs.Ytcdacnhggpfnaaa
open Go.RowKit
theorem Blk.put18 {w : World} {g : Nat} {t : TypeId} {a0 a1 a2 a3 a4 a5 a6 a7 a8 a9 a10 a11 a12 a13 a14 a15 a16 a17 v0 v1 v2 v3 v4 v5 v6 v7 v8 v9 v10 v11 v12 v13 v14 v15 v16 v17 : Value} (h : Blk w g t #[a0, a1, a2, a3, a4, a5, a6, a7, a8, a9, a10, a11, a12, a13, a14, a15, a16, a17]) : Blk ((((((((((((((((((w.setCell ⟨g, 0, none⟩ v0).setCell ⟨g, 1, none⟩ v1).setCell ⟨g, 2, none⟩ v2).setCell ⟨g, 3, none⟩ v3).setCell ⟨g, 4, none⟩ v4).setCell ⟨g, 5, none⟩ v5).setCell ⟨g, 6, none⟩ v6).setCell ⟨g, 7, none⟩ v7).setCell ⟨g, 8, none⟩ v8).setCell ⟨g, 9, none⟩ v9).setCell ⟨g, 10, none⟩ v10).setCell ⟨g, 11, none⟩ v11).setCell ⟨g, 12, none⟩ v12).setCell ⟨g, 13, none⟩ v13).setCell ⟨g, 14, none⟩ v14).setCell ⟨g, 15, none⟩ v15).setCell ⟨g, 16, none⟩ v16).setCell ⟨g, 17, none⟩ v17) g t #[v0, v1, v2, v3, v4, v5, v6, v7, v8, v9, v10, v11, v12, v13, v14, v15, v16, v17] := by
  have := ((((((((((((((((((h.set_ 0 v0).set_ 1 v1).set_ 2 v2).set_ 3 v3).set_ 4 v4).set_ 5 v5).set_ 6 v6).set_ 7 v7).set_ 8 v8).set_ 9 v9).set_ 10 v10).set_ 11 v11).set_ 12 v12).set_ 13 v13).set_ 14 v14).set_ 15 v15).set_ 16 v16).set_ 17 v17)
  simpa using this
theorem Ext.put18 {w w1 : World} {g : Nat} {v0 v1 v2 v3 v4 v5 v6 v7 v8 v9 v10 v11 v12 v13 v14 v15 v16 v17 : Value} (h : Ext w w1) (hg : w.heap.size ≤ g) : Ext w ((((((((((((((((((w1.setCell ⟨g, 0, none⟩ v0).setCell ⟨g, 1, none⟩ v1).setCell ⟨g, 2, none⟩ v2).setCell ⟨g, 3, none⟩ v3).setCell ⟨g, 4, none⟩ v4).setCell ⟨g, 5, none⟩ v5).setCell ⟨g, 6, none⟩ v6).setCell ⟨g, 7, none⟩ v7).setCell ⟨g, 8, none⟩ v8).setCell ⟨g, 9, none⟩ v9).setCell ⟨g, 10, none⟩ v10).setCell ⟨g, 11, none⟩ v11).setCell ⟨g, 12, none⟩ v12).setCell ⟨g, 13, none⟩ v13).setCell ⟨g, 14, none⟩ v14).setCell ⟨g, 15, none⟩ v15).setCell ⟨g, 16, none⟩ v16).setCell ⟨g, 17, none⟩ v17) :=
  ((((((((((((((((((h.setCell (p := ⟨g, 0, none⟩) hg v0).setCell (p := ⟨g, 1, none⟩) hg v1).setCell (p := ⟨g, 2, none⟩) hg v2).setCell (p := ⟨g, 3, none⟩) hg v3).setCell (p := ⟨g, 4, none⟩) hg v4).setCell (p := ⟨g, 5, none⟩) hg v5).setCell (p := ⟨g, 6, none⟩) hg v6).setCell (p := ⟨g, 7, none⟩) hg v7).setCell (p := ⟨g, 8, none⟩) hg v8).setCell (p := ⟨g, 9, none⟩) hg v9).setCell (p := ⟨g, 10, none⟩) hg v10).setCell (p := ⟨g, 11, none⟩) hg v11).setCell (p := ⟨g, 12, none⟩) hg v12).setCell (p := ⟨g, 13, none⟩) hg v13).setCell (p := ⟨g, 14, none⟩) hg v14).setCell (p := ⟨g, 15, none⟩) hg v15).setCell (p := ⟨g, 16, none⟩) hg v16).setCell (p := ⟨g, 17, none⟩) hg v17)
theorem Blk.c18 {w : World} {g : Nat} {t : TypeId} {a0 a1 a2 a3 a4 a5 a6 a7 a8 a9 a10 a11 a12 a13 a14 a15 a16 a17 : Value} (H : Blk w g t #[a0, a1, a2, a3, a4, a5, a6, a7, a8, a9, a10, a11, a12, a13, a14, a15, a16, a17]) :
    (w.cell? ⟨g, 0, none⟩ = some a0 ∧ w.cell? ⟨g, 1, none⟩ = some a1 ∧ w.cell? ⟨g, 2, none⟩ = some a2 ∧ w.cell? ⟨g, 3, none⟩ = some a3 ∧ w.cell? ⟨g, 4, none⟩ = some a4 ∧ w.cell? ⟨g, 5, none⟩ = some a5 ∧ w.cell? ⟨g, 6, none⟩ = some a6 ∧ w.cell? ⟨g, 7, none⟩ = some a7 ∧ w.cell? ⟨g, 8, none⟩ = some a8 ∧ w.cell? ⟨g, 9, none⟩ = some a9 ∧ w.cell? ⟨g, 10, none⟩ = some a10 ∧ w.cell? ⟨g, 11, none⟩ = some a11 ∧ w.cell? ⟨g, 12, none⟩ = some a12 ∧ w.cell? ⟨g, 13, none⟩ = some a13 ∧ w.cell? ⟨g, 14, none⟩ = some a14 ∧ w.cell? ⟨g, 15, none⟩ = some a15 ∧ w.cell? ⟨g, 16, none⟩ = some a16 ∧ w.cell? ⟨g, 17, none⟩ = some a17) ∧ (∀ i, w.frozen? ⟨g, i, none⟩ = false) ∧ g < w.heap.size :=
  ⟨⟨H.cell 0, H.cell 1, H.cell 2, H.cell 3, H.cell 4, H.cell 5, H.cell 6, H.cell 7, H.cell 8, H.cell 9, H.cell 10, H.cell 11, H.cell 12, H.cell 13, H.cell 14, H.cell 15, H.cell 16, H.cell 17⟩, H.frozen, H.lt⟩
theorem Blk.row {w : World} {g : Nat} {t : TypeId} {cs : Array Value} (h : Blk w g t cs) (cs' : Array Value) : Blk (w.setRow g cs') g t cs' := setRow_heap w g cs cs' t (0, 0) h
theorem Blk.rowFar {w : World} {q g : Nat} {t : TypeId} {cs : Array Value} (h : Blk w q t cs) (hg : q ≠ g) (cs' : Array Value) : Blk (w.setRow g cs') q t cs := (setRow_other w g q cs' hg).trans h
theorem Ext.row {w w1 : World} {g : Nat} (h : Ext w w1) (hg : w.heap.size ≤ g) (cs' : Array Value) : Ext w (w1.setRow g cs') := below_setRow h hg cs'
theorem out_row {Q : Ending → World → Prop} {a : Act} {w : World} {g : Nat} {cs : Array Value} (hp : a.tmps.getD 2 undef = .pointer (some ⟨g, 0, none⟩)) (hd : a.defers = []) (h : Blk w g 53 cs) (hs : cs.size = 18) (hq : Q (.returned (.agg cs)) w) : bodyPost Try.prog Try.f22 Q .ret a w :=
  bodyPost_ret (v := .agg cs) (results_cell_row rfl _ w g 53 cs (0, 0) _ hp h Try.underlying53 rfl (by rw [hs]; kernel_rfl)) hd hq
theorem fr_fail {b : List UInt8} {E : Int} (h : vrE b = E) (h0 : E ≠ 0) : #[.bool false, .bool false, .int .i64 0, .bool false, .bool false, .int .i64 0, .bool false, .int .i64 0, .bool false, .bool false, .int .i64 0, .bool false, .int .i64 0, .int .i64 0, .int .i64 0, .int .i64 0, .int .i64 0, .int .i64 E] = (#[.bool (vrD b).alone, .bool (vrD b).start, .int .i64 (vrD b).part, .bool (vrD b).hasPic, .bool (vrD b).wide, .int .i64 (vrD b).pic, .bool (vrD b).hasLevel, .int .i64 (vrD b).level, .bool (vrD b).hasTid, .bool (vrD b).hasKey, .int .i64 (vrD b).tid, .bool (vrD b).sync, .int .i64 (vrD b).key, .int .i64 (vrN b : Int), .int .i64 (fdP b), .int .i64 (fdL b), .int .i64 (fdK b), .int .i64 (vrE b)] : Array Value) := by
  obtain ⟨e1, e2, e3, e4, e5⟩ := fd_fail (b := b) (by rw [h]; exact h0)
  rw [e1, e2, e3, e4, e5, h]
  rfl
set_option maxRecDepth 100000 in
set_option maxHeartbeats 2000000 in
theorem fnd_nil (A : Option Addr) (c : Nat) (w : World) : Calls Try.prog 22 #[.slice A 0 c] w fun e w' => e = .returned (.agg #[.bool false, .bool false, .int .i64 0, .bool false, .bool false, .int .i64 0, .bool false, .int .i64 0, .bool false, .bool false, .int .i64 0, .bool false, .int .i64 0, .int .i64 0, .int .i64 0, .int .i64 0, .int .i64 0, .int .i64 2]) ∧ Ext w w' := by
  go_enter Try.func22, Try.ntmps22
  go_upto_region 1 with fail
  have hr := Blk.new w 53 #[.bool false, .bool false, .int .i64 0, .bool false, .bool false, .int .i64 0, .bool false, .int .i64 0, .bool false, .bool false, .int .i64 0, .bool false, .int .i64 0, .int .i64 0, .int .i64 0, .int .i64 0, .int .i64 0, .int .i64 0]
  have hE := (Ext.refl w).alloc (.cells #[.bool false, .bool false, .int .i64 0, .bool false, .bool false, .int .i64 0, .bool false, .int .i64 0, .bool false, .bool false, .int .i64 0, .bool false, .int .i64 0, .int .i64 0, .int .i64 0, .int .i64 0, .int .i64 0, .int .i64 0] 53)
  obtain ⟨gr, hgr⟩ : ∃ g, w.heap.size = g := ⟨_, rfl⟩
  have hwr : w.heap.size ≤ gr := by omega
  rw [hgr] at hr ⊢
  generalize hgw : w.alloc (.cells #[.bool false, .bool false, .int .i64 0, .bool false, .bool false, .int .i64 0, .bool false, .int .i64 0, .bool false, .bool false, .int .i64 0, .bool false, .int .i64 0, .int .i64 0, .int .i64 0, .int .i64 0, .int .i64 0, .int .i64 0] 53) = w1 at *
  clear hgw hgr
  go_wp2_with (refine wpList_store_row rfl 53 _ _ rfl gr #[.bool false, .bool false, .int .i64 0, .bool false, .bool false, .int .i64 0, .bool false, .int .i64 0, .bool false, .bool false, .int .i64 0, .bool false, .int .i64 0, .int .i64 0, .int .i64 0, .int .i64 0, .int .i64 0, .int .i64 2] rfl rfl 53 _ hr (by kernel_rfl) rfl (by simp [Value.oneCell']) ?_)
  refine out_row (g := gr) (cs := #[.bool false, .bool false, .int .i64 0, .bool false, .bool false, .int .i64 0, .bool false, .int .i64 0, .bool false, .bool false, .int .i64 0, .bool false, .int .i64 0, .int .i64 0, .int .i64 0, .int .i64 0, .int .i64 0, .int .i64 2]) (by rfl) (by rfl) (by exact hr.row _) (by rfl) (by exact ⟨rfl, hE.row hwr _⟩)
set_option maxRecDepth 100000 in
set_option maxHeartbeats 4000000 in
theorem fnd_cons (g o n c : Nat) (f : UInt8) (t : List UInt8) (w : World) (hb : Bytes w (some ⟨g, o, none⟩) n c (f :: t)) (hn6 : n ≤ 1000000) : Calls Try.prog 22 #[.slice (some ⟨g, o, none⟩) n c] w fun e w' => e = .returned (.agg #[.bool (vrD (f :: t)).alone, .bool (vrD (f :: t)).start, .int .i64 (vrD (f :: t)).part, .bool (vrD (f :: t)).hasPic, .bool (vrD (f :: t)).wide, .int .i64 (vrD (f :: t)).pic, .bool (vrD (f :: t)).hasLevel, .int .i64 (vrD (f :: t)).level, .bool (vrD (f :: t)).hasTid, .bool (vrD (f :: t)).hasKey, .int .i64 (vrD (f :: t)).tid, .bool (vrD (f :: t)).sync, .int .i64 (vrD (f :: t)).key, .int .i64 (vrN (f :: t) : Int), .int .i64 (fdP (f :: t)), .int .i64 (fdL (f :: t)), .int .i64 (fdK (f :: t)), .int .i64 (vrE (f :: t))]) ∧ Ext w w' := by
  have hn : n = t.length + 1 := by have := hb.len; simpa using this.symm
  have hin : (0 : Int) < (n : Int) := by omega
  have hn0 : ((n : Int) == 0) = false := by rw [beq_eq_false_iff_ne]; omega
  have hn1 : 0 < n := by omega
  have hgl : g < w.heap.size := by
    obtain ⟨g', o', e, h⟩ := hb.form hn1
    injection e with e; injection e with e1 e2; subst e1; exact h
  obtain ⟨a1, ha1⟩ : ∃ a, ((f.toNat : Int) / 32 % 2 == 1) = a := ⟨_, rfl⟩
  obtain ⟨s1, hs1⟩ : ∃ a, ((f.toNat : Int) / 16 % 2 == 1) = a := ⟨_, rfl⟩
  obtain ⟨p1, hp1⟩ : ∃ a, (f.toNat : Int) % 8 = a := ⟨_, rfl⟩
  have HB := hide (And.intro hb hn)
  go_enter Try.func22, Try.ntmps22
  clear hn
  go_upto_region 4 with fail
  have hr := (Blk.new w 53 #[.bool false, .bool false, .int .i64 0, .bool false, .bool false, .int .i64 0, .bool false, .int .i64 0, .bool false, .bool false, .int .i64 0, .bool false, .int .i64 0, .int .i64 0, .int .i64 0, .int .i64 0, .int .i64 0, .int .i64 0]).alloc (.cells #[.bool false, .bool false, .int .i64 0, .bool false, .bool false, .int .i64 0, .bool false, .int .i64 0, .bool false, .bool false, .int .i64 0, .bool false, .int .i64 0, .int .i64 1, .int .i64 0, .int .i64 0, .int .i64 0, .int .i64 0] 53)
  have hq := Blk.new (w.alloc (.cells #[.bool false, .bool false, .int .i64 0, .bool false, .bool false, .int .i64 0, .bool false, .int .i64 0, .bool false, .bool false, .int .i64 0, .bool false, .int .i64 0, .int .i64 0, .int .i64 0, .int .i64 0, .int .i64 0, .int .i64 0] 53)) 53 #[.bool false, .bool false, .int .i64 0, .bool false, .bool false, .int .i64 0, .bool false, .int .i64 0, .bool false, .bool false, .int .i64 0, .bool false, .int .i64 0, .int .i64 1, .int .i64 0, .int .i64 0, .int .i64 0, .int .i64 0]
  have hE := ((Ext.refl w).alloc (.cells #[.bool false, .bool false, .int .i64 0, .bool false, .bool false, .int .i64 0, .bool false, .int .i64 0, .bool false, .bool false, .int .i64 0, .bool false, .int .i64 0, .int .i64 0, .int .i64 0, .int .i64 0, .int .i64 0, .int .i64 0] 53)).alloc (.cells #[.bool false, .bool false, .int .i64 0, .bool false, .bool false, .int .i64 0, .bool false, .int .i64 0, .bool false, .bool false, .int .i64 0, .bool false, .int .i64 0, .int .i64 1, .int .i64 0, .int .i64 0, .int .i64 0, .int .i64 0] 53)
  rw [World.size_alloc] at hq
  obtain ⟨gr, hgr⟩ : ∃ g, w.heap.size = g := ⟨_, rfl⟩
  obtain ⟨gq, hgq⟩ : ∃ g, gr + 1 = g := ⟨_, rfl⟩
  have hwr : w.heap.size ≤ gr := by omega
  have hwq : w.heap.size ≤ gq := by omega
  have hne : gr ≠ gq := by omega
  have hng : g ≠ gq := by omega
  have hng2 : g ≠ gr := by omega
  rw [hgr] at hr hq; try rw [hgr]
  rw [hgq] at hq; try rw [hgq]
  generalize hgw : (w.alloc (.cells #[.bool false, .bool false, .int .i64 0, .bool false, .bool false, .int .i64 0, .bool false, .int .i64 0, .bool false, .bool false, .int .i64 0, .bool false, .int .i64 0, .int .i64 0, .int .i64 0, .int .i64 0, .int .i64 0, .int .i64 0] 53)).alloc (.cells #[.bool false, .bool false, .int .i64 0, .bool false, .bool false, .int .i64 0, .bool false, .int .i64 0, .bool false, .bool false, .int .i64 0, .bool false, .int .i64 0, .int .i64 1, .int .i64 0, .int .i64 0, .int .i64 0, .int .i64 0] 53) = w2 at *
  clear hgw hgr hgq
  replace hb := hb.ext hE
  have c0 := hb.cellAt 0 hn1
  simp only [Nat.add_zero, List.getD_cons_zero] at c0
  obtain ⟨⟨x0, x1, x2, x3, x4, x5, x6, x7, x8, x9, x10, x11, x12, x13, x14, x15, x16, x17⟩, xf, _⟩ := hq.c18
  clear x3 x4 x5 x6 x7 x8 x9 x10 x11 x12 x13 x14 x15 x16 x17
  go_upto_region 7 with fail
  replace hr := ((hr.far (p := ⟨gq, 0, none⟩) hne (.bool a1)).far (p := ⟨gq, 1, none⟩) hne (.bool s1)).far (p := ⟨gq, 2, none⟩) hne (.int .i64 p1)
  replace hq := ((hq.set_ 0 (.bool a1)).set_ 1 (.bool s1)).set_ 2 (.int .i64 p1)
  simp only [List.setIfInBounds_toArray, List.set_cons_zero, List.set_cons_succ] at hq
  have hE3 := ((hE.setCell (p := ⟨gq, 0, none⟩) hwq (.bool a1)).setCell (p := ⟨gq, 1, none⟩) hwq (.bool s1)).setCell (p := ⟨gq, 2, none⟩) hwq (.int .i64 p1)
  try clear xf
  clear hb c0 hE
  generalize hgw : ((w2.setCell ⟨gq, 0, none⟩ (.bool a1)).setCell ⟨gq, 1, none⟩ (.bool s1)).setCell ⟨gq, 2, none⟩ (.int .i64 p1) = w3 at *
  clear hgw
  have hb := HB.out.1.ext hE3
  have c0 := hb.cellAt 0 hn1
  simp only [Nat.add_zero, List.getD_cons_zero] at c0
  have hf8 := f.toNat_lt
  have hfa : decide (f.toNat / 32 % 2 = 1) = a1 := by
    rw [← ha1, Bool.eq_iff_iff, decide_eq_true_eq, beq_iff_eq]; omega
  have hfs : decide (f.toNat / 16 % 2 = 1) = s1 := by
    rw [← hs1, Bool.eq_iff_iff, decide_eq_true_eq, beq_iff_eq]; omega
  have hfp : ((f.toNat % 8 : Nat) : Int) = p1 := by rw [← hp1]; omega
  have HF := hide (And.intro hfa (And.intro hfs hfp))
  clear hfa hfs hfp ha1 hs1 hp1
  by_cases hf : f.toNat < 128
  · have hfi : (f.toNat : Int) < 128 := by omega
    go_wp2_with (first | (refine wpList_load_row rfl 53 _ rfl gq rfl 53 #[.bool a1, .bool s1, .int .i64 p1, .bool false, .bool false, .int .i64 0, .bool false, .int .i64 0, .bool false, .bool false, .int .i64 0, .bool false, .int .i64 0, .int .i64 1, .int .i64 0, .int .i64 0, .int .i64 0, .int .i64 0] (0, 0) _ hq Try.underlying53 rfl (by kernel_rfl) ?_) | (refine wpList_store_row rfl 53 _ _ rfl gr #[.bool a1, .bool s1, .int .i64 p1, .bool false, .bool false, .int .i64 0, .bool false, .int .i64 0, .bool false, .bool false, .int .i64 0, .bool false, .int .i64 0, .int .i64 1, .int .i64 0, .int .i64 0, .int .i64 0, .int .i64 0] rfl rfl 53 _ hr (by kernel_rfl) rfl (by simp [Value.oneCell']) ?_))
    have hWf : Wf f 0 [] [] [] := ⟨.inl ⟨(d2of_low (by omega)).1, rfl⟩, .inl ⟨(d2of_low (by omega)).2.1, rfl⟩, .inl ⟨by rw [(d2of_low (by omega)).2.2.1, (d2of_low (by omega)).2.2.2]; rfl, rfl⟩⟩
    have henc : f :: t = enc f 0 [] [] [] ++ t := by unfold enc; rw [if_neg (by omega)]; rfl
    have hv0 : vrE (f :: t) = 0 := by
      rw [(rdE_dec hWf henc).1, (d2of_low (by omega)).2.1]
      rfl
    obtain ⟨q1, q2, q3, q4, q5⟩ := fd_enc hWf henc hv0
    have hd2 : d2of f 0 = ⟨a1, s1, p1, false, false, 0, false, 0, false, false, 0, false, 0⟩ := by
      obtain ⟨e1, e2, e3⟩ := HF.out
      unfold d2of hNof rd2D
      rw [if_neg (by omega), e1, e2, e3]
      rfl
    have hd3 : dec f 0 [] [] [] = ⟨a1, s1, p1, false, false, 0, false, 0, false, false, 0, false, 0⟩ := by
      unfold dec; rw [hd2]; rfl
    have hlen1 : (enc f 0 [] [] []).length = 1 := by unfold enc; rw [if_neg (by omega)]; rfl
    refine out_row (g := gr) (cs := #[.bool a1, .bool s1, .int .i64 p1, .bool false, .bool false, .int .i64 0, .bool false, .int .i64 0, .bool false, .bool false, .int .i64 0, .bool false, .int .i64 0, .int .i64 1, .int .i64 0, .int .i64 0, .int .i64 0, .int .i64 0]) (by rfl) (by rfl) (by exact hr.row _) (by rfl) ?_
    refine ⟨?_, hE3.row hwr _⟩
    rw [q1, q2, q3, q4, q5, hv0, hd2, hd3, hlen1]
    rfl
  have hfh : 128 ≤ f.toNat := by omega
  have hfi : ¬ (f.toNat : Int) < 128 := by omega
  cases t with
  | nil =>
    have hv := sh_one hfh
    obtain rfl : n = 1 := HB.out.2
    go_upto_if 41 with (fail)
    go_wp2_with (refine wpList_store_row rfl 53 _ _ rfl gr #[.bool false, .bool false, .int .i64 0, .bool false, .bool false, .int .i64 0, .bool false, .int .i64 0, .bool false, .bool false, .int .i64 0, .bool false, .int .i64 0, .int .i64 0, .int .i64 0, .int .i64 0, .int .i64 0, .int .i64 2] rfl rfl 53 _ hr (by kernel_rfl) rfl (by simp [Value.oneCell']) ?_)
    refine out_row (g := gr) (cs := #[.bool false, .bool false, .int .i64 0, .bool false, .bool false, .int .i64 0, .bool false, .int .i64 0, .bool false, .bool false, .int .i64 0, .bool false, .int .i64 0, .int .i64 0, .int .i64 0, .int .i64 0, .int .i64 0, .int .i64 2]) (by rfl) (by rfl) (by exact hr.row _) (by rfl) (by (try simp only [List.append_nil] at hv ⊢); rw [fr_fail hv (by decide)]; first | exact ⟨rfl, hE3.row hwr _⟩ | (rw [hv]; exact ⟨rfl, hE3.row hwr _⟩))
  | cons h t =>
    obtain ⟨hb0, hn⟩ := HB.out
    have hn2 : n = t.length + 2 := hn
    have hin2 : (1 : Int) < (n : Int) := by omega
    have hin3 : ¬ (n : Int) < 2 := by omega
    have c1 := hb.cellAt 1 (by omega)
    simp only [List.getD_cons_succ, List.getD_cons_zero] at c1
    have hh8 := h.toNat_lt
    obtain ⟨hp, hhp⟩ : ∃ b, decide (h.toNat / 128 % 2 = 1) = b := ⟨_, rfl⟩
    obtain ⟨hl, hhl⟩ : ∃ b, decide (h.toNat / 64 % 2 = 1) = b := ⟨_, rfl⟩
    obtain ⟨ht, hht⟩ : ∃ b, decide (h.toNat / 32 % 2 = 1) = b := ⟨_, rfl⟩
    obtain ⟨hk, hhk⟩ : ∃ b, decide (h.toNat / 16 % 2 = 1) = b := ⟨_, rfl⟩
    have hd2 : d2of f h = ⟨a1, s1, p1, hp, false, 0, hl, 0, ht, hk, 0, false, 0⟩ := by
      obtain ⟨e1, e2, e3⟩ := HF.out
      unfold d2of hNof rd2D
      rw [if_pos hfh, e1, e2, e3, hhp, hhl, hht, hhk]
    have hp2 : hp = true ↔ 128 ≤ h.toNat := by rw [← hhp, decide_eq_true_eq]; omega
    have tl : ((h.toNat : Int) / 64 % 2 == 1) = hl := by rw [← hhl, Bool.eq_iff_iff, decide_eq_true_eq, beq_iff_eq]; omega
    have tt : ((h.toNat : Int) / 32 % 2 == 1) = ht := by rw [← hht, Bool.eq_iff_iff, decide_eq_true_eq, beq_iff_eq]; omega
    have tk : ((h.toNat : Int) / 16 % 2 == 1) = hk := by rw [← hhk, Bool.eq_iff_iff, decide_eq_true_eq, beq_iff_eq]; omega
    have HD := hide (And.intro hd2 hp2)
    have HN := hide hn2
    clear hhp hhl hht hhk hd2 hp2 hn hn2 hb0 HF hf
    go_upto_if 47 with (fail)
    go_cut [5] (fun v wx => ∃ p z, pw hp p ∧ t = p ++ z ∧ v = .int .i64 ((2 + p.length : Nat) : Int) ∧ Blk wx gq 53 #[.bool a1, .bool s1, .int .i64 p1, .bool hp, .bool (decide (p.length = 2)), .int .i64 ((val p % 32768 : Nat) : Int), .bool false, .int .i64 0, .bool false, .bool false, .int .i64 0, .bool false, .int .i64 0, .int .i64 1, .int .i64 (if hp = true then 2 else 0), .int .i64 0, .int .i64 0, .int .i64 0] ∧ Blk wx gr 53 #[.bool false, .bool false, .int .i64 0, .bool false, .bool false, .int .i64 0, .bool false, .int .i64 0, .bool false, .bool false, .int .i64 0, .bool false, .int .i64 0, .int .i64 0, .int .i64 0, .int .i64 0, .int .i64 0, .int .i64 0] ∧ Ext w wx)
    case first => as_aux_lemma =>
      clear tl tt tk c0 c1
      cases hp
      · have hpi : ¬ (128 : Int) ≤ (h.toNat : Int) := by have := HD.out.2; simp at this; omega
        go_wp2_with fail
        go_meet
        exact ⟨[], t, .inl ⟨rfl, rfl⟩, rfl, rfl, hq, hr, hE3⟩
      · have hpi : (128 : Int) ≤ (h.toNat : Int) := by have := HD.out.2.1 rfl; omega
        have hd2 := HD.out.1
        cases t with
        | nil =>
          obtain rfl : n = 2 := HN.out
          have hv := sh_pic (t := []) hfh (by rw [hd2]) (.inl rfl)
          obtain ⟨⟨x0, x1, x2, x3, x4, x5, x6, x7, x8, x9, x10, x11, x12, x13, x14, x15, x16, x17⟩, xf, _⟩ := hq.c18
          clear x0 x1 x2 x4 x5 x6 x7 x8 x9 x10 x11 x12 x13 x14 x15 x16 x17
          go_upto_if 53 with (fail)
          have hr2 := hr.far (p := ⟨gq, 3, none⟩) hne (.bool true)
          have hE4 := hE3.setCell (p := ⟨gq, 3, none⟩) hwq (.bool true)
          go_wp2_with (refine wpList_store_row rfl 53 _ _ rfl gr #[.bool false, .bool false, .int .i64 0, .bool false, .bool false, .int .i64 0, .bool false, .int .i64 0, .bool false, .bool false, .int .i64 0, .bool false, .int .i64 0, .int .i64 0, .int .i64 0, .int .i64 0, .int .i64 0, .int .i64 2] rfl rfl 53 _ hr2 (by kernel_rfl) rfl (by simp [Value.oneCell']) ?_)
          refine out_row (g := gr) (cs := #[.bool false, .bool false, .int .i64 0, .bool false, .bool false, .int .i64 0, .bool false, .int .i64 0, .bool false, .bool false, .int .i64 0, .bool false, .int .i64 0, .int .i64 0, .int .i64 0, .int .i64 0, .int .i64 0, .int .i64 2]) (by rfl) (by rfl) (by exact hr2.row _) (by rfl) (by (try simp only [List.append_nil] at hv ⊢); rw [fr_fail hv (by decide)]; first | exact ⟨rfl, hE4.row hwr _⟩ | (rw [hv]; exact ⟨rfl, hE4.row hwr _⟩))
        | cons x t =>
          have hn3 : n = t.length + 3 := HN.out
          have c2 := hb.cellAt 2 (by omega)
          simp only [List.getD_cons_succ, List.getD_cons_zero] at c2
          have i2 : ¬ (n : Int) ≤ 2 := by omega
          have i2' : (2 : Int) < (n : Int) := by omega
          have hx8 := x.toNat_lt
          by_cases hx : x.toNat < 128
          · have hxi : ¬ (128 : Int) ≤ (x.toNat : Int) := by omega
            have hq2 := ((hq.set_ 3 (.bool true)).set_ 14 (.int .i64 2)).set_ 5 (.int .i64 (x.toNat : Int))
            have hr2 := ((hr.far (p := ⟨gq, 3, none⟩) hne (.bool true)).far (p := ⟨gq, 14, none⟩) hne (.int .i64 2)).far (p := ⟨gq, 5, none⟩) hne (.int .i64 (x.toNat : Int))
            have hE4 := ((hE3.setCell (p := ⟨gq, 3, none⟩) hwq (.bool true)).setCell (p := ⟨gq, 14, none⟩) hwq (.int .i64 2)).setCell (p := ⟨gq, 5, none⟩) hwq (.int .i64 (x.toNat : Int))
            simp only [List.setIfInBounds_toArray, List.set_cons_zero, List.set_cons_succ] at hq2
            have hvx : ((val [x] % 32768 : Nat) : Int) = (x.toNat : Int) := by rw [val1]; omega
            have F := hide (And.intro hq2 (And.intro hr2 hE4))
            obtain ⟨⟨x0, x1, x2, x3, x4, x5, x6, x7, x8, x9, x10, x11, x12, x13, x14, x15, x16, x17⟩, xf, _⟩ := hq.c18
            clear x0 x1 x2 x6 x7 x8 x9 x10 x11 x12 x13 x15 x16 x17
            clear hq2 hr2 hE4 hq hr hE3 hn3 hvx
            go_wp2_with fail
            go_meet
            obtain ⟨f1, f2, f3⟩ := F.out
            have hvx : ((val [x] % 32768 : Nat) : Int) = (x.toNat : Int) := by rw [val1]; omega
            exact ⟨[x], t, .inr ⟨rfl, .inl ⟨x, rfl, hx⟩⟩, rfl, rfl, by rw [hvx]; exact f1, f2, f3⟩
          · have hxi : (128 : Int) ≤ (x.toNat : Int) := by omega
            cases t with
            | nil =>
              obtain rfl : n = 3 := hn3
              have hv := sh_pic (t := [x]) hfh (by rw [hd2]) (.inr ⟨x, rfl, by omega⟩)
              have hr2 := (((hr.far (p := ⟨gq, 3, none⟩) hne (.bool true)).far (p := ⟨gq, 14, none⟩) hne (.int .i64 2)).far (p := ⟨gq, 5, none⟩) hne (.int .i64 (x.toNat : Int))).far (p := ⟨gq, 4, none⟩) hne (.bool true)
              have hE4 := (((hE3.setCell (p := ⟨gq, 3, none⟩) hwq (.bool true)).setCell (p := ⟨gq, 14, none⟩) hwq (.int .i64 2)).setCell (p := ⟨gq, 5, none⟩) hwq (.int .i64 (x.toNat : Int))).setCell (p := ⟨gq, 4, none⟩) hwq (.bool true)
              obtain ⟨⟨x0, x1, x2, x3, x4, x5, x6, x7, x8, x9, x10, x11, x12, x13, x14, x15, x16, x17⟩, xf, _⟩ := hq.c18
              clear x0 x1 x2 x6 x7 x8 x9 x10 x11 x12 x13 x15 x16 x17
              go_upto_if 75 with (fail)
              go_wp2_with (refine wpList_store_row rfl 53 _ _ rfl gr #[.bool false, .bool false, .int .i64 0, .bool false, .bool false, .int .i64 0, .bool false, .int .i64 0, .bool false, .bool false, .int .i64 0, .bool false, .int .i64 0, .int .i64 0, .int .i64 0, .int .i64 0, .int .i64 0, .int .i64 2] rfl rfl 53 _ hr2 (by kernel_rfl) rfl (by simp [Value.oneCell']) ?_)
              refine out_row (g := gr) (cs := #[.bool false, .bool false, .int .i64 0, .bool false, .bool false, .int .i64 0, .bool false, .int .i64 0, .bool false, .bool false, .int .i64 0, .bool false, .int .i64 0, .int .i64 0, .int .i64 0, .int .i64 0, .int .i64 0, .int .i64 2]) (by rfl) (by rfl) (by exact hr2.row _) (by rfl) (by (try simp only [List.append_nil] at hv ⊢); rw [fr_fail hv (by decide)]; first | exact ⟨rfl, hE4.row hwr _⟩ | (rw [hv]; exact ⟨rfl, hE4.row hwr _⟩))
            | cons y t =>
              have hn4 : n = t.length + 4 := hn3
              have c3 := hb.cellAt 3 (by omega)
              simp only [List.getD_cons_succ, List.getD_cons_zero] at c3
              have i3 : ¬ (n : Int) ≤ 3 := by omega
              have i3' : (3 : Int) < (n : Int) := by omega
              have hy8 := y.toNat_lt
              have hq2 := ((((hq.set_ 3 (.bool true)).set_ 14 (.int .i64 2)).set_ 5 (.int .i64 (x.toNat : Int))).set_ 4 (.bool true)).set_ 5 (.int .i64 (256 * ((x.toNat : Int) - 128) + (y.toNat : Int)))
              have hr2 := ((((hr.far (p := ⟨gq, 3, none⟩) hne (.bool true)).far (p := ⟨gq, 14, none⟩) hne (.int .i64 2)).far (p := ⟨gq, 5, none⟩) hne (.int .i64 (x.toNat : Int))).far (p := ⟨gq, 4, none⟩) hne (.bool true)).far (p := ⟨gq, 5, none⟩) hne (.int .i64 (256 * ((x.toNat : Int) - 128) + (y.toNat : Int)))
              have hE4 := ((((hE3.setCell (p := ⟨gq, 3, none⟩) hwq (.bool true)).setCell (p := ⟨gq, 14, none⟩) hwq (.int .i64 2)).setCell (p := ⟨gq, 5, none⟩) hwq (.int .i64 (x.toNat : Int))).setCell (p := ⟨gq, 4, none⟩) hwq (.bool true)).setCell (p := ⟨gq, 5, none⟩) hwq (.int .i64 (256 * ((x.toNat : Int) - 128) + (y.toNat : Int)))
              simp only [List.setIfInBounds_toArray, List.set_cons_zero, List.set_cons_succ] at hq2
              have hvx : ((val [x, y] % 32768 : Nat) : Int) = 256 * ((x.toNat : Int) - 128) + (y.toNat : Int) := by rw [val2]; omega
              have F := hide (And.intro hq2 (And.intro hr2 hE4))
              obtain ⟨⟨x0, x1, x2, x3, x4, x5, x6, x7, x8, x9, x10, x11, x12, x13, x14, x15, x16, x17⟩, xf, _⟩ := hq.c18
              clear x0 x1 x2 x6 x7 x8 x9 x10 x11 x12 x13 x15 x16 x17
              clear hq2 hr2 hE4 hq hr hE3 hn4 hn3 hvx
              go_upto_region 24 with fail
              go_region
              go_wp2_with fail
              go_meet
              obtain ⟨f1, f2, f3⟩ := F.out
              have hvx : ((val [x, y] % 32768 : Nat) : Int) = 256 * ((x.toNat : Int) - 128) + (y.toNat : Int) := by rw [val2]; omega
              exact ⟨[x, y], t, .inr ⟨rfl, .inr ⟨x, y, rfl, by omega⟩⟩, rfl, rfl, by rw [hvx]; exact f1.drew, f2.drew, f3.drew⟩
    case rest =>
      obtain ⟨p, z3, hpw, rfl, rfl, hq3, hr3, hE4⟩ := hcut
      clear hq hr hE3 c0 c1 hb
      have hb := HB.out.1.ext hE4
      have hn3 : n = (2 + p.length) + z3.length := by have := HN.out; rw [List.length_append] at this; omega
      have HP := hide hpw
      obtain ⟨P, hP⟩ : ∃ P, 2 + p.length = P := ⟨_, rfl⟩
      rw [hP] at hn3; try rw [hP]
      obtain ⟨W, hW⟩ : ∃ W, decide (p.length = 2) = W := ⟨_, rfl⟩
      obtain ⟨V, hV⟩ : ∃ V : Int, ((val p % 32768 : Nat) : Int) = V := ⟨_, rfl⟩
      obtain ⟨PP, hPP⟩ : ∃ V : Int, (if hp = true then (2 : Int) else 0) = V := ⟨_, rfl⟩
      rw [hW, hV, hPP] at hq3
      have HPe := hide (And.intro hP (And.intro hW (And.intro hV hPP)))
      have HN3 := hide hn3
      have hPn : P ≤ 1000000 := by omega
      clear hpw hW hV hPP hP hn3
      go_upto_if 95 with (fail)
      go_cut [5] (fun v wx => ∃ l z, ow hl l ∧ z3 = l ++ z ∧ v = .int .i64 ((P + l.length : Nat) : Int) ∧ Blk wx gq 53 #[.bool a1, .bool s1, .int .i64 p1, .bool hp, .bool W, .int .i64 V, .bool hl, .int .i64 (val l : Int), .bool false, .bool false, .int .i64 0, .bool false, .int .i64 0, .int .i64 1, .int .i64 PP, .int .i64 (if hl = true then (P : Int) else 0), .int .i64 0, .int .i64 0] ∧ Blk wx gr 53 #[.bool false, .bool false, .int .i64 0, .bool false, .bool false, .int .i64 0, .bool false, .int .i64 0, .bool false, .bool false, .int .i64 0, .bool false, .int .i64 0, .int .i64 0, .int .i64 0, .int .i64 0, .int .i64 0, .int .i64 0] ∧ Ext w wx)
      case first => as_aux_lemma =>
        clear tl tt tk
        have hd2 := HD.out.1
        have hn3 := HN3.out
        cases hl
        · clear hd2 hn3
          go_wp2_with fail
          go_meet
          exact ⟨[], z3, .inl ⟨rfl, rfl⟩, rfl, rfl, hq3, hr3, hE4⟩
        · cases z3 with
          | nil =>
            have hv : vrE (f :: h :: (p ++ [])) = 2 := by rw [List.append_nil]; exact sh_lev hfh (p := p) (g := h) (by rw [hd2]; exact HP.out) (by rw [hd2])
            rw [List.length_nil, Nat.add_zero] at hn3
            have i2 : (n : Int) ≤ (P : Int) := by omega
            have i3 : n ≤ P := by omega
            have hr2 := hr3.far (p := ⟨gq, 6, none⟩) hne (.bool true)
            have hE5 := hE4.setCell (p := ⟨gq, 6, none⟩) hwq (.bool true)
            obtain ⟨⟨x0, x1, x2, x3, x4, x5, x6, x7, x8, x9, x10, x11, x12, x13, x14, x15, x16, x17⟩, xf, _⟩ := hq3.c18
            clear x0 x1 x2 x3 x4 x5 x7 x8 x9 x10 x11 x12 x13 x14 x15 x16 x17
            clear hd2 hn3
            go_upto_if 101 with (fail)
            go_wp2_with (refine wpList_store_row rfl 53 _ _ rfl gr #[.bool false, .bool false, .int .i64 0, .bool false, .bool false, .int .i64 0, .bool false, .int .i64 0, .bool false, .bool false, .int .i64 0, .bool false, .int .i64 0, .int .i64 0, .int .i64 0, .int .i64 0, .int .i64 0, .int .i64 2] rfl rfl 53 _ hr2 (by kernel_rfl) rfl (by simp [Value.oneCell']) ?_)
            refine out_row (g := gr) (cs := #[.bool false, .bool false, .int .i64 0, .bool false, .bool false, .int .i64 0, .bool false, .int .i64 0, .bool false, .bool false, .int .i64 0, .bool false, .int .i64 0, .int .i64 0, .int .i64 0, .int .i64 0, .int .i64 0, .int .i64 2]) (by rfl) (by rfl) (by exact hr2.row _) (by rfl) (by (try simp only [List.append_nil] at hv ⊢); rw [fr_fail hv (by decide)]; first | exact ⟨rfl, hE5.row hwr _⟩ | (rw [hv]; exact ⟨rfl, hE5.row hwr _⟩))
          | cons x z4 =>
            rw [List.length_cons] at hn3
            have c2 := hb.cellAt P (by omega)
            have e2 : (f :: h :: (p ++ x :: z4)).getD P 0 = x := getD_cat (f :: h :: p) z4 x P (by rw [← HPe.out.1]; simp; omega)
            rw [e2] at c2
            have i2 : ¬ (n : Int) ≤ (P : Int) := by omega
            have i3 : ¬ n ≤ P := by omega
            have i4 : (P : Int) < (n : Int) := by omega
            have hx8 := x.toNat_lt
            have hq2 := ((hq3.set_ 6 (.bool true)).set_ 15 (.int .i64 (P : Int))).set_ 7 (.int .i64 (x.toNat : Int))
            have hr2 := ((hr3.far (p := ⟨gq, 6, none⟩) hne (.bool true)).far (p := ⟨gq, 15, none⟩) hne (.int .i64 (P : Int))).far (p := ⟨gq, 7, none⟩) hne (.int .i64 (x.toNat : Int))
            have hE5 := ((hE4.setCell (p := ⟨gq, 6, none⟩) hwq (.bool true)).setCell (p := ⟨gq, 15, none⟩) hwq (.int .i64 (P : Int))).setCell (p := ⟨gq, 7, none⟩) hwq (.int .i64 (x.toNat : Int))
            simp only [List.setIfInBounds_toArray, List.set_cons_zero, List.set_cons_succ] at hq2
            have F := hide (And.intro hq2 (And.intro hr2 hE5))
            obtain ⟨⟨x0, x1, x2, x3, x4, x5, x6, x7, x8, x9, x10, x11, x12, x13, x14, x15, x16, x17⟩, xf, _⟩ := hq3.c18
            clear x0 x1 x2 x3 x4 x5 x8 x9 x10 x11 x12 x13 x14 x16 x17
            clear hq2 hr2 hE5 hq3 hr3 hE4 hd2 hn3 e2
            go_wp2_with fail
            go_meet
            obtain ⟨f1, f2, f3⟩ := F.out
            exact ⟨[x], z4, .inr ⟨rfl, x, rfl⟩, rfl, by simp, by rw [val1]; exact f1, f2, f3⟩
      case rest =>
        obtain ⟨l, z4, hlw, rfl, rfl, hq4, hr4, hE5⟩ := hcut
        clear hq3 hr3 hE4 hb
        have hb := HB.out.1.ext hE5
        obtain ⟨Q, hQ⟩ : ∃ Q, P + l.length = Q := ⟨_, rfl⟩
        have hn4 : n = Q + z4.length := by have := HN3.out; rw [List.length_append] at this; omega
        try rw [hQ]
        obtain ⟨LV, hLV⟩ : ∃ V : Int, (val l : Int) = V := ⟨_, rfl⟩
        obtain ⟨LL, hLL⟩ : ∃ V : Int, (if hl = true then (P : Int) else 0) = V := ⟨_, rfl⟩
        rw [hLV, hLL] at hq4
        have HL := hide (And.intro hlw (And.intro hQ (And.intro hLV hLL)))
        have HN4 := hide hn4
        have hQn : Q ≤ 1000000 := by omega
        clear hlw hLV hLL hQ hn4 tl
        have hq5 := (hq4.set_ 8 (.bool ht)).set_ 9 (.bool hk)
        have hr5 := (hr4.far (p := ⟨gq, 8, none⟩) hne (.bool ht)).far (p := ⟨gq, 9, none⟩) hne (.bool hk)
        have hE6 := (hE5.setCell (p := ⟨gq, 8, none⟩) hwq (.bool ht)).setCell (p := ⟨gq, 9, none⟩) hwq (.bool hk)
        simp only [List.setIfInBounds_toArray, List.set_cons_zero, List.set_cons_succ] at hq5
        obtain ⟨⟨x0, x1, x2, x3, x4, x5, x6, x7, x8, x9, x10, x11, x12, x13, x14, x15, x16, x17⟩, xf, _⟩ := hq4.c18
        clear x0 x1 x2 x3 x4 x5 x6 x7 x10 x11 x12 x13 x14 x15 x16 x17
        go_upto_region 35 with fail
        try clear xf
        clear hq4 hr4 hE5 hb tt tk
        generalize hgw : (wc.setCell ⟨gq, 8, none⟩ (.bool ht)).setCell ⟨gq, 9, none⟩ (.bool hk) = w5 at *
        clear hgw
        have hb := HB.out.1.ext hE6
        obtain ⟨tk2, htk2⟩ : ∃ b, (ht || hk) = b := ⟨_, rfl⟩
        have HT := hide htk2
        clear htk2
        go_cut [133] (fun v wx => v = .bool tk2 ∧ wx = w5)
        case first => as_aux_lemma =>
          obtain ⟨⟨x0, x1, x2, x3, x4, x5, x6, x7, x8, x9, x10, x11, x12, x13, x14, x15, x16, x17⟩, xf, _⟩ := hq5.c18
          clear x0 x1 x2 x3 x4 x5 x6 x7 x10 x11 x12 x13 x14 x15 x16 x17
          have h2 := HT.out
          cases ht
          all_goals
            subst h2
            go_wp2_with fail
            go_meet
            exact ⟨by simp, rfl⟩
        case rest =>
          obtain ⟨rfl, rfl⟩ := hcut
          go_upto_if 133 with (fail)
          go_cut [5] (fun v wx => ∃ k z, ow tk2 k ∧ z4 = k ++ z ∧ v = .int .i64 ((Q + k.length : Nat) : Int) ∧ Blk wx gq 53 #[.bool a1, .bool s1, .int .i64 p1, .bool hp, .bool W, .int .i64 V, .bool hl, .int .i64 LV, .bool ht, .bool hk, .int .i64 (if ht = true then ((val k / 64 : Nat) : Int) else 0), .bool (decide (val k / 32 % 2 = 1)), .int .i64 (if hk = true then ((val k % 32 : Nat) : Int) else 0), .int .i64 1, .int .i64 PP, .int .i64 LL, .int .i64 (if tk2 = true then (Q : Int) else 0), .int .i64 0] ∧ Blk wx gr 53 #[.bool false, .bool false, .int .i64 0, .bool false, .bool false, .int .i64 0, .bool false, .int .i64 0, .bool false, .bool false, .int .i64 0, .bool false, .int .i64 0, .int .i64 0, .int .i64 0, .int .i64 0, .int .i64 0, .int .i64 0] ∧ Ext w wx)
          case first => as_aux_lemma =>
            have hd2 := HD.out.1
            have hn3 := HN4.out
            have h2 := HT.out
            cases tk2
            · rw [Bool.or_eq_false_iff] at h2
              obtain ⟨rfl, rfl⟩ := h2
              clear hd2 hn3
              go_wp2_with fail
              go_meet
              exact ⟨[], z4, .inl ⟨rfl, rfl⟩, rfl, rfl, hq5, hr5, hE6⟩
            · cases z4 with
              | nil =>
                have hv : vrE (f :: h :: (p ++ (l ++ []))) = 2 := by
                  rw [List.append_nil]
                  exact sh_key hfh (p := p) (g := h) (l := l) (by rw [hd2]; exact HP.out) (by rw [hd2]; exact HL.out.1) (by rw [hd2]; exact h2)
                rw [List.length_nil, Nat.add_zero] at hn3
                have i2 : (n : Int) ≤ (Q : Int) := by omega
                have i3 : n ≤ Q := by omega
                clear hd2 hn3 h2
                go_upto_if 137 with (fail)
                go_wp2_with (refine wpList_store_row rfl 53 _ _ rfl gr #[.bool false, .bool false, .int .i64 0, .bool false, .bool false, .int .i64 0, .bool false, .int .i64 0, .bool false, .bool false, .int .i64 0, .bool false, .int .i64 0, .int .i64 0, .int .i64 0, .int .i64 0, .int .i64 0, .int .i64 2] rfl rfl 53 _ hr5 (by kernel_rfl) rfl (by simp [Value.oneCell']) ?_)
                refine out_row (g := gr) (cs := #[.bool false, .bool false, .int .i64 0, .bool false, .bool false, .int .i64 0, .bool false, .int .i64 0, .bool false, .bool false, .int .i64 0, .bool false, .int .i64 0, .int .i64 0, .int .i64 0, .int .i64 0, .int .i64 0, .int .i64 2]) (by rfl) (by rfl) (by exact hr5.row _) (by rfl) (by (try simp only [List.append_nil] at hv ⊢); rw [fr_fail hv (by decide)]; first | exact ⟨rfl, hE6.row hwr _⟩ | (rw [hv]; exact ⟨rfl, hE6.row hwr _⟩))
              | cons x z5 =>
                rw [List.length_cons] at hn3
                have c2 := hb.cellAt Q (by omega)
                have e2 : (f :: h :: (p ++ (l ++ x :: z5))).getD Q 0 = x := by
                  have := getD_cat (f :: h :: (p ++ l)) z5 x Q (by rw [← HL.out.2.1, ← HPe.out.1]; simp; omega)
                  simpa using this
                rw [e2] at c2
                have i2 : ¬ (n : Int) ≤ (Q : Int) := by omega
                have i3 : ¬ n ≤ Q := by omega
                have i4 : (Q : Int) < (n : Int) := by omega
                have hx8 := x.toNat_lt
                obtain ⟨sy, hsy⟩ : ∃ b, ((x.toNat : Int) / 32 % 2 == 1) = b := ⟨_, rfl⟩
                have hsy2 : decide (val [x] / 32 % 2 = 1) = sy := by
                  rw [← hsy, Bool.eq_iff_iff, decide_eq_true_eq, beq_iff_eq, val1]; omega
                have hti : ((val [x] / 64 : Nat) : Int) = (x.toNat : Int) / 64 := by rw [val1]; omega
                have hky : ((val [x] % 32 : Nat) : Int) = (x.toNat : Int) % 32 := by rw [val1]; omega
                have HV := hide (And.intro hsy2 (And.intro hti hky))
                clear hsy2 hti hky hd2 hn3 e2
                cases ht
                · cases hk
                  · cases h2
                  · have hq6 := (((hq5.set_ 16 (.int .i64 (Q : Int))).set_ 11 (.bool sy)).set_ 12 (.int .i64 ((x.toNat : Int) % 32)))
                    have hr6 := (((hr5.far (p := ⟨gq, 16, none⟩) hne (.int .i64 (Q : Int))).far (p := ⟨gq, 11, none⟩) hne (.bool sy)).far (p := ⟨gq, 12, none⟩) hne (.int .i64 ((x.toNat : Int) % 32)))
                    have hE7 := (((hE6.setCell (p := ⟨gq, 16, none⟩) hwq (.int .i64 (Q : Int))).setCell (p := ⟨gq, 11, none⟩) hwq (.bool sy)).setCell (p := ⟨gq, 12, none⟩) hwq (.int .i64 ((x.toNat : Int) % 32)))
                    simp only [List.setIfInBounds_toArray, List.set_cons_zero, List.set_cons_succ] at hq6
                    have F := hide (And.intro hq6 (And.intro hr6 hE7))
                    obtain ⟨⟨x0, x1, x2, x3, x4, x5, x6, x7, x8, x9, x10, x11, x12, x13, x14, x15, x16, x17⟩, xf, _⟩ := hq5.c18
                    clear x0 x1 x2 x3 x4 x5 x6 x7 x13 x14 x15 x17
                    clear hq6 hr6 hE7 hq5 hr5 hE6 h2
                    go_wp2_with fail
                    go_meet
                    obtain ⟨f1, f2, f3⟩ := F.out
                    obtain ⟨g1, g2, g3⟩ := HV.out
                    exact ⟨[x], z5, .inr ⟨rfl, x, rfl⟩, rfl, by simp, by rw [g1, g2, g3]; exact f1, f2, f3⟩
                · cases hk
                  · have hq6 := (((hq5.set_ 16 (.int .i64 (Q : Int))).set_ 11 (.bool sy)).set_ 10 (.int .i64 ((x.toNat : Int) / 64)))
                    have hr6 := (((hr5.far (p := ⟨gq, 16, none⟩) hne (.int .i64 (Q : Int))).far (p := ⟨gq, 11, none⟩) hne (.bool sy)).far (p := ⟨gq, 10, none⟩) hne (.int .i64 ((x.toNat : Int) / 64)))
                    have hE7 := (((hE6.setCell (p := ⟨gq, 16, none⟩) hwq (.int .i64 (Q : Int))).setCell (p := ⟨gq, 11, none⟩) hwq (.bool sy)).setCell (p := ⟨gq, 10, none⟩) hwq (.int .i64 ((x.toNat : Int) / 64)))
                    simp only [List.setIfInBounds_toArray, List.set_cons_zero, List.set_cons_succ] at hq6
                    have F := hide (And.intro hq6 (And.intro hr6 hE7))
                    obtain ⟨⟨x0, x1, x2, x3, x4, x5, x6, x7, x8, x9, x10, x11, x12, x13, x14, x15, x16, x17⟩, xf, _⟩ := hq5.c18
                    clear x0 x1 x2 x3 x4 x5 x6 x7 x13 x14 x15 x17
                    clear hq6 hr6 hE7 hq5 hr5 hE6 h2
                    go_wp2_with fail
                    go_meet
                    obtain ⟨f1, f2, f3⟩ := F.out
                    obtain ⟨g1, g2, g3⟩ := HV.out
                    exact ⟨[x], z5, .inr ⟨rfl, x, rfl⟩, rfl, by simp, by rw [g1, g2, g3]; exact f1, f2, f3⟩
                  · have hq6 := ((((hq5.set_ 16 (.int .i64 (Q : Int))).set_ 11 (.bool sy)).set_ 10 (.int .i64 ((x.toNat : Int) / 64))).set_ 12 (.int .i64 ((x.toNat : Int) % 32)))
                    have hr6 := ((((hr5.far (p := ⟨gq, 16, none⟩) hne (.int .i64 (Q : Int))).far (p := ⟨gq, 11, none⟩) hne (.bool sy)).far (p := ⟨gq, 10, none⟩) hne (.int .i64 ((x.toNat : Int) / 64))).far (p := ⟨gq, 12, none⟩) hne (.int .i64 ((x.toNat : Int) % 32)))
                    have hE7 := ((((hE6.setCell (p := ⟨gq, 16, none⟩) hwq (.int .i64 (Q : Int))).setCell (p := ⟨gq, 11, none⟩) hwq (.bool sy)).setCell (p := ⟨gq, 10, none⟩) hwq (.int .i64 ((x.toNat : Int) / 64))).setCell (p := ⟨gq, 12, none⟩) hwq (.int .i64 ((x.toNat : Int) % 32)))
                    simp only [List.setIfInBounds_toArray, List.set_cons_zero, List.set_cons_succ] at hq6
                    have F := hide (And.intro hq6 (And.intro hr6 hE7))
                    obtain ⟨⟨x0, x1, x2, x3, x4, x5, x6, x7, x8, x9, x10, x11, x12, x13, x14, x15, x16, x17⟩, xf, _⟩ := hq5.c18
                    clear x0 x1 x2 x3 x4 x5 x6 x7 x13 x14 x15 x17
                    clear hq6 hr6 hE7 hq5 hr5 hE6 h2
                    go_wp2_with fail
                    go_meet
                    obtain ⟨f1, f2, f3⟩ := F.out
                    obtain ⟨g1, g2, g3⟩ := HV.out
                    exact ⟨[x], z5, .inr ⟨rfl, x, rfl⟩, rfl, by simp, by rw [g1, g2, g3]; exact f1, f2, f3⟩
          case rest =>
            obtain ⟨k, z5, hkw, rfl, rfl, hq6, hr6, hE7⟩ := hcut
            clear hq5 hr5 hE6 hb
            obtain ⟨hpw, hW, hV, hPP⟩ := HPe.out
            obtain ⟨hlw, hQ, hLV, hLL⟩ := HL.out
            have hd2 := HD.out.1
            have hWf : Wf f h p l k := ⟨by rw [hd2]; exact HP.out, by rw [hd2]; exact hlw, by rw [hd2, HT.out]; exact hkw⟩
            have henc : f :: h :: (p ++ (l ++ (k ++ z5))) = enc f h p l k ++ z5 := by unfold enc; rw [if_pos hfh]; simp
            have hel : (enc f h p l k).length = Q + k.length := by unfold enc; rw [if_pos hfh]; simp; omega
            have hvE := (rdE_dec hWf henc).1
            obtain ⟨R, hR⟩ : ∃ R, Q + k.length = R := ⟨_, rfl⟩
            try rw [hR]
            obtain ⟨bb, hbb⟩ : ∃ bb, f :: h :: (p ++ (l ++ (k ++ z5))) = bb := ⟨_, rfl⟩
            rw [hbb] at henc hvE
            try rw [hbb]
            obtain ⟨TI, hTI⟩ : ∃ V : Int, (if ht = true then ((val k / 64 : Nat) : Int) else 0) = V := ⟨_, rfl⟩
            obtain ⟨SY, hSY⟩ : ∃ V, decide (val k / 32 % 2 = 1) = V := ⟨_, rfl⟩
            obtain ⟨KY, hKY⟩ : ∃ V : Int, (if hk = true then ((val k % 32 : Nat) : Int) else 0) = V := ⟨_, rfl⟩
            obtain ⟨KK, hKK⟩ : ∃ V : Int, (if tk2 = true then (Q : Int) else 0) = V := ⟨_, rfl⟩
            rw [hTI, hSY, hKY, hKK] at hq6
            rw [hd2] at hvE
            dsimp only at hvE
            by_cases h6 : hl = true ∧ hp = false
            · obtain ⟨rfl, rfl⟩ := h6
              rw [if_pos ⟨rfl, rfl⟩] at hvE
              have HvE := hide hvE
              have HBB := hide hbb
              clear hvE hpw hW hV hPP hlw hQ hLV hLL hd2 hWf henc hel hR hbb hTI hSY hKY hKK
              obtain ⟨⟨x0, x1, x2, x3, x4, x5, x6, x7, x8, x9, x10, x11, x12, x13, x14, x15, x16, x17⟩, xf, _⟩ := hq6.c18
              clear x0 x1 x2 x4 x5 x7 x8 x9 x10 x11 x12 x13 x14 x15 x16 x17
              go_upto_if 182 with (fail)
              try clear xf
              go_wp2_with (refine wpList_store_row rfl 53 _ _ rfl gr #[.bool false, .bool false, .int .i64 0, .bool false, .bool false, .int .i64 0, .bool false, .int .i64 0, .bool false, .bool false, .int .i64 0, .bool false, .int .i64 0, .int .i64 0, .int .i64 0, .int .i64 0, .int .i64 0, .int .i64 6] rfl rfl 53 _ hr6 (by kernel_rfl) rfl (by simp [Value.oneCell']) ?_)
              refine out_row (g := gr) (cs := #[.bool false, .bool false, .int .i64 0, .bool false, .bool false, .int .i64 0, .bool false, .int .i64 0, .bool false, .bool false, .int .i64 0, .bool false, .int .i64 0, .int .i64 0, .int .i64 0, .int .i64 0, .int .i64 0, .int .i64 6]) (by rfl) (by rfl) (by exact hr6.row _) (by rfl) ?_
              rw [fr_fail HvE.out (by decide)]
              have hbb := HBB.out
              subst hbb
              exact ⟨rfl, hE7.row hwr _⟩
            · rw [if_neg h6] at hvE
              obtain ⟨q1, q2, q3, q4, q5⟩ := fd_enc hWf henc hvE
              rw [hel, hR] at q2
              have hq7 := hq6.set_ 13 (.int .i64 (R : Int))
              have hr7 := hr6.far (p := ⟨gq, 13, none⟩) hne (.int .i64 (R : Int))
              have hE8 := hE7.setCell (p := ⟨gq, 13, none⟩) hwq (.int .i64 (R : Int))
              simp only [List.setIfInBounds_toArray, List.set_cons_zero, List.set_cons_succ] at hq7
              have hfin : #[.bool a1, .bool s1, .int .i64 p1, .bool hp, .bool W, .int .i64 V, .bool hl, .int .i64 LV, .bool ht, .bool hk, .int .i64 TI, .bool SY, .int .i64 KY, .int .i64 (R : Int), .int .i64 PP, .int .i64 LL, .int .i64 KK, .int .i64 0] = (#[.bool (vrD bb).alone, .bool (vrD bb).start, .int .i64 (vrD bb).part, .bool (vrD bb).hasPic, .bool (vrD bb).wide, .int .i64 (vrD bb).pic, .bool (vrD bb).hasLevel, .int .i64 (vrD bb).level, .bool (vrD bb).hasTid, .bool (vrD bb).hasKey, .int .i64 (vrD bb).tid, .bool (vrD bb).sync, .int .i64 (vrD bb).key, .int .i64 (vrN bb : Int), .int .i64 (fdP bb), .int .i64 (fdL bb), .int .i64 (fdK bb), .int .i64 (vrE bb)] : Array Value) := by
                rw [q1, q2, q3, q4, q5, hvE]
                unfold dec
                rw [hd2]
                dsimp only
                rw [hW, hV, hPP, hLV, hSY, hTI, hKY, hpw, hLL, hQ]
                congr
                rw [← hKK, ← HT.out]
                simp
              have HFIN := hide hfin
              have HBB := hide hbb
              have h7 : hl = false ∨ (hl = true ∧ hp = true) := by cases hl <;> cases hp <;> simp_all
              clear hfin hvE hpw hW hV hPP hlw hQ hLV hLL hd2 hWf henc hel hR hbb hTI hSY hKY hKK q1 q2 q3 q4 q5 h6
              obtain ⟨⟨x0, x1, x2, x3, x4, x5, x6, x7, x8, x9, x10, x11, x12, x13, x14, x15, x16, x17⟩, xf, _⟩ := hq6.c18
              clear x0 x1 x2 x4 x5 x7 x8 x9 x10 x11 x12 x14 x15 x16 x17
              rcases h7 with rfl | ⟨rfl, rfl⟩
              all_goals
                go_upto_region 48 with fail
                try clear xf
                go_wp2_with (first | (refine wpList_load_row rfl 53 _ rfl gq rfl 53 _ (0, 0) _ hq7 Try.underlying53 rfl (by kernel_rfl) ?_) | (refine wpList_store_row rfl 53 _ _ rfl gr _ rfl rfl 53 _ hr7 (by kernel_rfl) rfl (by simp [Value.oneCell']) ?_))
                refine out_row (g := gr) (cs := #[.bool (vrD bb).alone, .bool (vrD bb).start, .int .i64 (vrD bb).part, .bool (vrD bb).hasPic, .bool (vrD bb).wide, .int .i64 (vrD bb).pic, .bool (vrD bb).hasLevel, .int .i64 (vrD bb).level, .bool (vrD bb).hasTid, .bool (vrD bb).hasKey, .int .i64 (vrD bb).tid, .bool (vrD bb).sync, .int .i64 (vrD bb).key, .int .i64 (vrN bb : Int), .int .i64 (fdP bb), .int .i64 (fdL bb), .int .i64 (fdK bb), .int .i64 (vrE bb)]) (by rfl) (by rfl) ?_ (by rfl) (by have hbb := HBB.out; subst hbb; exact ⟨rfl, hE8.row hwr _⟩)
                rw [← HFIN.out]
                exact hr7.row _
set_option maxRecDepth 100000 in
theorem fnd_any (A : Option Addr) (n c : Nat) (b : List UInt8) (w : World) (hb : Bytes w A n c b) (hn : n ≤ 1000000) : Calls Try.prog 22 #[.slice A n c] w fun e w' => e = .returned (.agg #[.bool (vrD b).alone, .bool (vrD b).start, .int .i64 (vrD b).part, .bool (vrD b).hasPic, .bool (vrD b).wide, .int .i64 (vrD b).pic, .bool (vrD b).hasLevel, .int .i64 (vrD b).level, .bool (vrD b).hasTid, .bool (vrD b).hasKey, .int .i64 (vrD b).tid, .bool (vrD b).sync, .int .i64 (vrD b).key, .int .i64 (vrN b : Int), .int .i64 (fdP b), .int .i64 (fdL b), .int .i64 (fdK b), .int .i64 (vrE b)]) ∧ Ext w w' := by
  cases b with
  | nil =>
    obtain rfl : n = 0 := hb.len.symm
    rw [← fr_fail sh_nil (by decide)]
    exact fnd_nil A c w
  | cons f t =>
    obtain ⟨g, o, rfl, _⟩ := hb.form (by have := hb.len; simp at this; omega)
    exact fnd_cons g o n c f t w hb hn
end Go.Proofs.Ytcdacnhggpfnaaa

/- vp8's reader: read: the walk. -/
import Derived.Test.YtcdacnhggpfnaaaVp8L
namespace Go.Proofs.Ytcdacnhggpfnaaa
open Go.RowKit
theorem Blk.put13 {w : World} {g : Nat} {t : TypeId} {a0 a1 a2 a3 a4 a5 a6 a7 a8 a9 a10 a11 a12 v0 v1 v2 v3 v4 v5 v6 v7 v8 v9 v10 v11 v12 : Value} (h : Blk w g t #[a0, a1, a2, a3, a4, a5, a6, a7, a8, a9, a10, a11, a12]) : Blk (((((((((((((w.setCell ⟨g, 0, none⟩ v0).setCell ⟨g, 1, none⟩ v1).setCell ⟨g, 2, none⟩ v2).setCell ⟨g, 3, none⟩ v3).setCell ⟨g, 4, none⟩ v4).setCell ⟨g, 5, none⟩ v5).setCell ⟨g, 6, none⟩ v6).setCell ⟨g, 7, none⟩ v7).setCell ⟨g, 8, none⟩ v8).setCell ⟨g, 9, none⟩ v9).setCell ⟨g, 10, none⟩ v10).setCell ⟨g, 11, none⟩ v11).setCell ⟨g, 12, none⟩ v12) g t #[v0, v1, v2, v3, v4, v5, v6, v7, v8, v9, v10, v11, v12] := by
  have := ((((((((((((h.set_ 0 v0).set_ 1 v1).set_ 2 v2).set_ 3 v3).set_ 4 v4).set_ 5 v5).set_ 6 v6).set_ 7 v7).set_ 8 v8).set_ 9 v9).set_ 10 v10).set_ 11 v11).set_ 12 v12
  simpa using this
theorem Blk.far13 {w : World} {q g : Nat} {t : TypeId} {cs : Array Value} {v0 v1 v2 v3 v4 v5 v6 v7 v8 v9 v10 v11 v12 : Value} (h : Blk w q t cs) (hg : q ≠ g) : Blk (((((((((((((w.setCell ⟨g, 0, none⟩ v0).setCell ⟨g, 1, none⟩ v1).setCell ⟨g, 2, none⟩ v2).setCell ⟨g, 3, none⟩ v3).setCell ⟨g, 4, none⟩ v4).setCell ⟨g, 5, none⟩ v5).setCell ⟨g, 6, none⟩ v6).setCell ⟨g, 7, none⟩ v7).setCell ⟨g, 8, none⟩ v8).setCell ⟨g, 9, none⟩ v9).setCell ⟨g, 10, none⟩ v10).setCell ⟨g, 11, none⟩ v11).setCell ⟨g, 12, none⟩ v12) q t cs :=
  ((((((((((((h.far (p := ⟨g, 0, none⟩) hg v0).far (p := ⟨g, 1, none⟩) hg v1).far (p := ⟨g, 2, none⟩) hg v2).far (p := ⟨g, 3, none⟩) hg v3).far (p := ⟨g, 4, none⟩) hg v4).far (p := ⟨g, 5, none⟩) hg v5).far (p := ⟨g, 6, none⟩) hg v6).far (p := ⟨g, 7, none⟩) hg v7).far (p := ⟨g, 8, none⟩) hg v8).far (p := ⟨g, 9, none⟩) hg v9).far (p := ⟨g, 10, none⟩) hg v10).far (p := ⟨g, 11, none⟩) hg v11).far (p := ⟨g, 12, none⟩) hg v12
theorem Chg.put13 {S : Nat → Prop} {w0 w : World} {g : Nat} {v0 v1 v2 v3 v4 v5 v6 v7 v8 v9 v10 v11 v12 : Value} (h : Chg S w0 w) (hg : S g) : Chg S w0 (((((((((((((w.setCell ⟨g, 0, none⟩ v0).setCell ⟨g, 1, none⟩ v1).setCell ⟨g, 2, none⟩ v2).setCell ⟨g, 3, none⟩ v3).setCell ⟨g, 4, none⟩ v4).setCell ⟨g, 5, none⟩ v5).setCell ⟨g, 6, none⟩ v6).setCell ⟨g, 7, none⟩ v7).setCell ⟨g, 8, none⟩ v8).setCell ⟨g, 9, none⟩ v9).setCell ⟨g, 10, none⟩ v10).setCell ⟨g, 11, none⟩ v11).setCell ⟨g, 12, none⟩ v12) :=
  ((((((((((((h.trans (Chg.set_ _ g 0 v0 hg)).trans (Chg.set_ _ g 1 v1 hg)).trans (Chg.set_ _ g 2 v2 hg)).trans (Chg.set_ _ g 3 v3 hg)).trans (Chg.set_ _ g 4 v4 hg)).trans (Chg.set_ _ g 5 v5 hg)).trans (Chg.set_ _ g 6 v6 hg)).trans (Chg.set_ _ g 7 v7 hg)).trans (Chg.set_ _ g 8 v8 hg)).trans (Chg.set_ _ g 9 v9 hg)).trans (Chg.set_ _ g 10 v10 hg)).trans (Chg.set_ _ g 11 v11 hg)).trans (Chg.set_ _ g 12 v12 hg)
theorem Ext.put13 {w w1 : World} {g : Nat} {v0 v1 v2 v3 v4 v5 v6 v7 v8 v9 v10 v11 v12 : Value} (h : Ext w w1) (hg : w.heap.size ≤ g) : Ext w (((((((((((((w1.setCell ⟨g, 0, none⟩ v0).setCell ⟨g, 1, none⟩ v1).setCell ⟨g, 2, none⟩ v2).setCell ⟨g, 3, none⟩ v3).setCell ⟨g, 4, none⟩ v4).setCell ⟨g, 5, none⟩ v5).setCell ⟨g, 6, none⟩ v6).setCell ⟨g, 7, none⟩ v7).setCell ⟨g, 8, none⟩ v8).setCell ⟨g, 9, none⟩ v9).setCell ⟨g, 10, none⟩ v10).setCell ⟨g, 11, none⟩ v11).setCell ⟨g, 12, none⟩ v12) :=
  ((((((((((((h.setCell (p := ⟨g, 0, none⟩) hg v0).setCell (p := ⟨g, 1, none⟩) hg v1).setCell (p := ⟨g, 2, none⟩) hg v2).setCell (p := ⟨g, 3, none⟩) hg v3).setCell (p := ⟨g, 4, none⟩) hg v4).setCell (p := ⟨g, 5, none⟩) hg v5).setCell (p := ⟨g, 6, none⟩) hg v6).setCell (p := ⟨g, 7, none⟩) hg v7).setCell (p := ⟨g, 8, none⟩) hg v8).setCell (p := ⟨g, 9, none⟩) hg v9).setCell (p := ⟨g, 10, none⟩) hg v10).setCell (p := ⟨g, 11, none⟩) hg v11).setCell (p := ⟨g, 12, none⟩) hg v12
theorem Chg.new {S : Nat → Prop} {w w' : World} (h : Chg (fun x => S x ∨ w.heap.size ≤ x) w w') : Chg S w w' :=
  ⟨fun W0 hS hE => h.ext W0 (fun b hb => hb.elim (hS b) fun h => Nat.le_trans hE.size h) hE, fun q t cs hq hb => h.blk q t cs (fun h => h.elim hq fun h => by have := hb.lt; omega) hb⟩
theorem vbits (x : Nat) (h : x < 256) : decide ((0 : Int) < bits .and .i64 (x : Int) 32) = decide (x / 32 % 2 = 1) ∧ decide ((0 : Int) < bits .and .i64 (x : Int) 16) = decide (x / 16 % 2 = 1) ∧ decide ((0 : Int) < bits .and .i64 (x : Int) 128) = decide (x / 128 % 2 = 1) ∧ decide ((0 : Int) < bits .and .i64 (x : Int) 64) = decide (x / 64 % 2 = 1) ∧ bits .and .i64 (x : Int) 7 = ((x % 8 : Nat) : Int) ∧ (decide ((0 : Int) < bits .and .i64 (x : Int) 128) = decide (128 ≤ x)) := by
  have h : ∀ x : Fin 256, decide ((0 : Int) < bits .and .i64 (x.1 : Int) 32) = decide (x.1 / 32 % 2 = 1) ∧ decide ((0 : Int) < bits .and .i64 (x.1 : Int) 16) = decide (x.1 / 16 % 2 = 1) ∧ decide ((0 : Int) < bits .and .i64 (x.1 : Int) 128) = decide (x.1 / 128 % 2 = 1) ∧ decide ((0 : Int) < bits .and .i64 (x.1 : Int) 64) = decide (x.1 / 64 % 2 = 1) ∧ bits .and .i64 (x.1 : Int) 7 = ((x.1 % 8 : Nat) : Int) ∧ (decide ((0 : Int) < bits .and .i64 (x.1 : Int) 128) = decide (128 ≤ x.1)) := by decide +kernel
  exact h ⟨x, by omega⟩
set_option maxRecDepth 100000 in
set_option maxHeartbeats 4000000 in
theorem rdread_any (g : Nat) (A : Option Addr) (n c : Nat) (b : List UInt8) (s : Rs) (W0 w : World) (hb : Bytes W0 A n c b) (hE : Ext W0 w) (h0g : W0.heap.size ≤ g) (hg : Blk w g 105 #[.slice A n c, .int .i64 (s.at_ : Int), .bool s.short, .int .i64 s.p, .int .i64 s.l, .int .i64 s.k]) (hn : n ≤ 1000000) (hat : s.at_ ≤ 1000000) (s5 : Rs) (d5 : V8) (hall : rdAll b s = (s5, d5)) :
    Calls Try.prog 51 #[.pointer (some ⟨g, 0, none⟩)] w fun e w' => e = .returned (.tuple #[.agg #[.bool (rdV s5 d5).alone, .bool (rdV s5 d5).start, .int .i64 (rdV s5 d5).part, .bool (rdV s5 d5).hasPic, .bool (rdV s5 d5).wide, .int .i64 (rdV s5 d5).pic, .bool (rdV s5 d5).hasLevel, .int .i64 (rdV s5 d5).level, .bool (rdV s5 d5).hasTid, .bool (rdV s5 d5).hasKey, .int .i64 (rdV s5 d5).tid, .bool (rdV s5 d5).sync, .int .i64 (rdV s5 d5).key], .int .i64 (rdE s5 d5)]) ∧ Blk w' g 105 #[.slice A n c, .int .i64 (s5.at_ : Int), .bool s5.short, .int .i64 s5.p, .int .i64 s5.l, .int .i64 s5.k] ∧ Chg (· = g) w w' := by
  have hlen := hb.len
  have hlt := hg.lt
  obtain ⟨f, hf⟩ : ∃ v, tkN b s 1 = v := ⟨_, rfl⟩
  obtain ⟨a1, ha1⟩ : ∃ v, tkA b s 1 = v := ⟨_, rfl⟩
  obtain ⟨s1, hs1⟩ : ∃ v, tkS b s 1 = v := ⟨_, rfl⟩
  have hat1 : s1.at_ ≤ 1000000 := by rw [← hs1]; exact tkS_at (by omega) hat
  have hf8 := tkN_lt1 b s
  rw [hf] at hf8
  have S1 := hide (fun W h h' => take_any g A n c b 1 s W h h' (by omega) (by omega) hn hat f hf a1 ha1 s1 hs1)
  obtain ⟨s2, hs2⟩ : ∃ v, rd2S b s = v := ⟨_, rfl⟩
  obtain ⟨h2, hh2⟩ : ∃ v, rd2N b s = v := ⟨_, rfl⟩
  have hat2 : s2.at_ ≤ 1000000 := by rw [← hs2]; exact rd2S_at (by omega) hat
  have hh8 : h2 < 256 := by rw [← hh2]; unfold rd2N; split; exact tkN_lt1 _ _; omega
  obtain ⟨d2, hd2⟩ : ∃ v, rd2D f h2 = v := ⟨_, rfl⟩
  obtain ⟨s3, hs3⟩ : ∃ v, st3 b s2 d2 = v := ⟨_, rfl⟩
  obtain ⟨d3, hd3⟩ : ∃ v, sd3 b s2 d2 = v := ⟨_, rfl⟩
  have hat3 : s3.at_ ≤ 1000000 := by rw [← hs3]; exact st3_at (by omega) hat2
  obtain ⟨s4, hs4⟩ : ∃ v, st4 b s3 d3 = v := ⟨_, rfl⟩
  obtain ⟨d4, hd4⟩ : ∃ v, sd4 b s3 d3 = v := ⟨_, rfl⟩
  have hat4 : s4.at_ ≤ 1000000 := by rw [← hs4]; exact st4_at (by omega) hat3
  have h5 : st5 b s4 d4 = s5 ∧ sd5 b s4 d4 = d5 := by
    unfold rdAll at hall
    rw [hf] at hall
    dsimp only at hall
    rw [hs2, hh2, hd2, hs3, hd3, hs4, hd4] at hall
    exact ⟨congrArg Prod.fst hall, congrArg Prod.snd hall⟩
  unfold rd2S at hs2
  unfold rd2N at hh2
  rw [hf, hs1] at hs2 hh2
  have H2 := hide (And.intro hs2 hh2)
  have H3 := hide (And.intro hs3 hd3)
  have H4 := hide (And.intro hs4 hd4)
  have H5 := hide h5
  have B1 : Hid (decide ((0 : Int) < bits .and .i64 (f : Int) 32) = d2.alone ∧ decide ((0 : Int) < bits .and .i64 (f : Int) 16) = d2.start ∧ bits .and .i64 (f : Int) 7 = d2.part) := by
    rw [← hd2]
    exact hide ⟨(vbits f hf8).1, (vbits f hf8).2.1, (vbits f hf8).2.2.2.2.1⟩
  have B0 := hide (vbits f hf8).2.2.2.2.2
  have B2 : Hid (decide ((0 : Int) < bits .and .i64 (h2 : Int) 128) = d2.hasPic ∧ decide ((0 : Int) < bits .and .i64 (h2 : Int) 64) = d2.hasLevel ∧ decide ((0 : Int) < bits .and .i64 (h2 : Int) 32) = d2.hasTid ∧ decide ((0 : Int) < bits .and .i64 (h2 : Int) 16) = d2.hasKey) := by
    rw [← hd2]
    exact hide ⟨(vbits h2 hh8).2.2.1, (vbits h2 hh8).2.2.2.1, (vbits h2 hh8).1, (vbits h2 hh8).2.1⟩
  have HD2 : Hid (d2.wide = false ∧ d2.pic = 0 ∧ d2.level = 0 ∧ d2.tid = 0 ∧ d2.sync = false ∧ d2.key = 0) := by
    rw [← hd2]
    exact hide ⟨rfl, rfl, rfl, rfl, rfl, rfl⟩
  have hS : ∀ x, (x = g ∨ w.heap.size ≤ x) → W0.heap.size ≤ x := fun x h => h.elim (fun e => by omega) fun h => Nat.le_trans hE.size h
  clear hall hs2 hh2 hs3 hd3 hs4 hd4 h5 hd2 hf ha1 hs1
  obtain ⟨ee, hee⟩ : ∃ x, rdE s5 d5 = x := ⟨_, rfl⟩
  obtain ⟨vv, hvv⟩ : ∃ x, rdV s5 d5 = x := ⟨_, rfl⟩
  rw [hee, hvv]
  have HEV := hide (And.intro hee hvv)
  clear hee hvv
  go_enter Try.func51, Try.ntmps51
  go_wp2_with fail
  have hr0 := (Blk.new w 45 #[.bool false, .bool false, .int .i64 0, .bool false, .bool false, .int .i64 0, .bool false, .int .i64 0, .bool false, .bool false, .int .i64 0, .bool false, .int .i64 0]).alloc (.cells #[.bool false, .bool false, .int .i64 0, .bool false, .bool false, .int .i64 0, .bool false, .int .i64 0, .bool false, .bool false, .int .i64 0, .bool false, .int .i64 0] 45)
  have hd0 := Blk.new (w.alloc (.cells #[.bool false, .bool false, .int .i64 0, .bool false, .bool false, .int .i64 0, .bool false, .int .i64 0, .bool false, .bool false, .int .i64 0, .bool false, .int .i64 0] 45)) 45 #[.bool false, .bool false, .int .i64 0, .bool false, .bool false, .int .i64 0, .bool false, .int .i64 0, .bool false, .bool false, .int .i64 0, .bool false, .int .i64 0]
  have hg0 := (hg.alloc (.cells #[.bool false, .bool false, .int .i64 0, .bool false, .bool false, .int .i64 0, .bool false, .int .i64 0, .bool false, .bool false, .int .i64 0, .bool false, .int .i64 0] 45)).alloc (.cells #[.bool false, .bool false, .int .i64 0, .bool false, .bool false, .int .i64 0, .bool false, .int .i64 0, .bool false, .bool false, .int .i64 0, .bool false, .int .i64 0] 45)
  have hC0 : Chg (fun x => x = g ∨ w.heap.size ≤ x) w ((w.alloc (.cells #[.bool false, .bool false, .int .i64 0, .bool false, .bool false, .int .i64 0, .bool false, .int .i64 0, .bool false, .bool false, .int .i64 0, .bool false, .int .i64 0] 45)).alloc (.cells #[.bool false, .bool false, .int .i64 0, .bool false, .bool false, .int .i64 0, .bool false, .int .i64 0, .bool false, .bool false, .int .i64 0, .bool false, .int .i64 0] 45)) := Chg.of_ext (((Ext.refl _).alloc _).alloc _)
  have hszw : w.heap.size ≤ w.heap.size := Nat.le_refl _
  simp only [World.size_alloc] at hd0
  obtain ⟨r, hr⟩ : ∃ r, w.heap.size = r := ⟨_, rfl⟩
  rw [hr] at hr0 hd0 hlt ⊢
  have hC : Chg (fun x => x = g ∨ r ≤ x) w ((w.alloc (.cells #[.bool false, .bool false, .int .i64 0, .bool false, .bool false, .int .i64 0, .bool false, .int .i64 0, .bool false, .bool false, .int .i64 0, .bool false, .int .i64 0] 45)).alloc (.cells #[.bool false, .bool false, .int .i64 0, .bool false, .bool false, .int .i64 0, .bool false, .int .i64 0, .bool false, .bool false, .int .i64 0, .bool false, .int .i64 0] 45)) := by rw [← hr]; exact hC0
  replace hS : ∀ x, (x = g ∨ r ≤ x) → W0.heap.size ≤ x := by rw [← hr]; exact hS
  have hFin : ∀ w', Chg (fun x => x = g ∨ r ≤ x) w w' → Chg (· = g) w w' := by rw [← hr]; exact fun w' h => h.new
  clear hC0 hszw
  generalize (w.alloc (.cells #[.bool false, .bool false, .int .i64 0, .bool false, .bool false, .int .i64 0, .bool false, .int .i64 0, .bool false, .bool false, .int .i64 0, .bool false, .int .i64 0] 45)).alloc (.cells #[.bool false, .bool false, .int .i64 0, .bool false, .bool false, .int .i64 0, .bool false, .int .i64 0, .bool false, .bool false, .int .i64 0, .bool false, .int .i64 0] 45) = w0 at *
  clear hg hr
  have HF := hide hFin
  have HSS := hide hS
  clear hFin hS
  refine (S1.out _ (hb.ext (hC.ext W0 HSS.out hE)) hg0).mono ?_
  rintro e w1 ⟨rfl, hg1, hC1⟩
  have hr1 := hC1.blk r _ _ (by show ¬ r = g; omega) hr0
  have hd1 := hC1.blk (r + 1) _ _ (by show ¬ r + 1 = g; omega) hd0
  replace hC := hC.trans (hC1.mono fun x e => .inl e)
  clear hg0 hr0 hd0 hC1 S1
  obtain ⟨⟨y0, y1, y2, y3, y4, y5⟩, yf, _⟩ := hg1.sixR
  obtain ⟨⟨x0, x1, x2, x3, x4, x5, x6, x7, x8, x9, x10, x11, x12⟩, xf, _⟩ := hd1.thirteen
  go_upto_region 5 with fail
  obtain ⟨e1, e2, e3⟩ := B1.out
  rw [e1, e2, e3]
  clear e1 e2 e3
  clear y0 y1 y2 y3 y4 y5 yf x0 x1 x2 x3 x4 x5 x6 x7 x8 x9 x10 x11 x12 xf
  have hd2 := (((hd1.set_ 0 (.bool d2.alone)).set_ 1 (.bool d2.start)).set_ 2 (.int .i64 d2.part))
  have hr2 := (((hr1.far (p := ⟨r + 1, 0, none⟩) (by show ¬ r = r + 1; omega) (.bool d2.alone)).far (p := ⟨r + 1, 1, none⟩) (by show ¬ r = r + 1; omega) (.bool d2.start)).far (p := ⟨r + 1, 2, none⟩) (by show ¬ r = r + 1; omega) (.int .i64 d2.part))
  have hg2 := (((hg1.far (p := ⟨r + 1, 0, none⟩) (by show ¬ g = r + 1; omega) (.bool d2.alone)).far (p := ⟨r + 1, 1, none⟩) (by show ¬ g = r + 1; omega) (.bool d2.start)).far (p := ⟨r + 1, 2, none⟩) (by show ¬ g = r + 1; omega) (.int .i64 d2.part))
  replace hC := (((hC.trans (Chg.set_ w1 (r + 1) 0 (.bool d2.alone) (.inr (by omega)))).trans (Chg.set_ (w1.setCell ⟨(r + 1), 0, none⟩ (.bool d2.alone)) (r + 1) 1 (.bool d2.start) (.inr (by omega)))).trans (Chg.set_ ((w1.setCell ⟨(r + 1), 0, none⟩ (.bool d2.alone)).setCell ⟨(r + 1), 1, none⟩ (.bool d2.start)) (r + 1) 2 (.int .i64 d2.part) (.inr (by omega))))
  simp only [List.setIfInBounds_toArray, List.set_cons_zero, List.set_cons_succ] at hd2
  generalize hgw : (((w1.setCell ⟨r + 1, 0, none⟩ (.bool d2.alone)).setCell ⟨r + 1, 1, none⟩ (.bool d2.start)).setCell ⟨r + 1, 2, none⟩ (.int .i64 d2.part)) = w2 at *
  clear hgw
  clear hr1 hg1 hd1
  obtain ⟨⟨y0, y1, y2, y3, y4, y5⟩, yf, _⟩ := hg2.sixR
  obtain ⟨⟨x0, x1, x2, x3, x4, x5, x6, x7, x8, x9, x10, x11, x12⟩, xf, _⟩ := hd2.thirteen
  go_upto_if 26 with fail
  rw [B0.out]
  go_cut [7] (fun v wx => v = .int .i64 (h2 : Int) ∧ Blk wx g 105 #[.slice A n c, .int .i64 (s2.at_ : Int), .bool s2.short, .int .i64 s2.p, .int .i64 s2.l, .int .i64 s2.k] ∧ Blk wx (r + 1) 45 #[.bool d2.alone, .bool d2.start, .int .i64 d2.part, .bool false, .bool false, .int .i64 0, .bool false, .int .i64 0, .bool false, .bool false, .int .i64 0, .bool false, .int .i64 0] ∧ Blk wx r 45 #[.bool false, .bool false, .int .i64 0, .bool false, .bool false, .int .i64 0, .bool false, .int .i64 0, .bool false, .bool false, .int .i64 0, .bool false, .int .i64 0] ∧ Chg (fun x => x = g ∨ r ≤ x) w wx)
  case first =>
    obtain ⟨k1, k2⟩ := H2.out
    by_cases h1 : 128 ≤ f
    · rw [if_pos h1] at k1 k2
      have S1 := hide (fun W h h' => take_any g A n c b 1 s1 W h h' (by omega) (by omega) hn hat1 h2 k2 _ rfl s2 k1)
      have h1d : decide (128 ≤ f) = true := decide_eq_true h1
      rw [h1d]
      clear k1 k2 h1 h1d
      go_wp2_with fail
      refine (S1.out _ (hb.ext (hC.ext W0 HSS.out hE)) hg2).mono ?_
      rintro e w3 ⟨rfl, hg3, hC1⟩
      have hr3 := hC1.blk r _ _ (by show ¬ r = g; omega) hr2
      have hd3 := hC1.blk (r + 1) _ _ (by show ¬ r + 1 = g; omega) hd2
      replace hC := hC.trans (hC1.mono fun x e => .inl e)
      go_wp2_with fail
      go_meet
      case rel => exact ⟨rfl, hg3, hd3, hr3, hC⟩
    · rw [if_neg h1] at k1 k2
      subst k1 k2
      have h1d : decide (128 ≤ f) = false := decide_eq_false h1
      rw [h1d]
      go_wp2_with fail
      go_meet
      case rel => exact ⟨rfl, hg2, hd2, hr2, hC⟩
  case rest =>
    obtain ⟨rfl, hg3, hd3, hr3, hC3⟩ := hcut
    clear hC hg2 hd2 hr2 B1 B0 H2 y0 y1 y2 y3 y4 y5 yf x0 x1 x2 x3 x4 x5 x6 x7 x8 x9 x10 x11 x12 xf
    have hC := hC3
    clear hC3
    obtain ⟨⟨y0, y1, y2, y3, y4, y5⟩, yf, _⟩ := hg3.sixR
    obtain ⟨⟨x0, x1, x2, x3, x4, x5, x6, x7, x8, x9, x10, x11, x12⟩, xf, _⟩ := hd3.thirteen
    go_upto_region 8 with fail
    obtain ⟨e1, e2, e3, e4⟩ := B2.out
    rw [e1, e2, e3, e4]
    clear e1 e2 e3 e4
    clear y0 y1 y2 y3 y4 y5 yf x0 x1 x2 x3 x4 x5 x6 x7 x8 x9 x10 x11 x12 xf
    have hd4 := ((((hd3.set_ 3 (.bool d2.hasPic)).set_ 6 (.bool d2.hasLevel)).set_ 8 (.bool d2.hasTid)).set_ 9 (.bool d2.hasKey))
    have hr4 := ((((hr3.far (p := ⟨r + 1, 3, none⟩) (by show ¬ r = r + 1; omega) (.bool d2.hasPic)).far (p := ⟨r + 1, 6, none⟩) (by show ¬ r = r + 1; omega) (.bool d2.hasLevel)).far (p := ⟨r + 1, 8, none⟩) (by show ¬ r = r + 1; omega) (.bool d2.hasTid)).far (p := ⟨r + 1, 9, none⟩) (by show ¬ r = r + 1; omega) (.bool d2.hasKey))
    have hg4 := ((((hg3.far (p := ⟨r + 1, 3, none⟩) (by show ¬ g = r + 1; omega) (.bool d2.hasPic)).far (p := ⟨r + 1, 6, none⟩) (by show ¬ g = r + 1; omega) (.bool d2.hasLevel)).far (p := ⟨r + 1, 8, none⟩) (by show ¬ g = r + 1; omega) (.bool d2.hasTid)).far (p := ⟨r + 1, 9, none⟩) (by show ¬ g = r + 1; omega) (.bool d2.hasKey))
    replace hC := ((((hC.trans (Chg.set_ wc (r + 1) 3 (.bool d2.hasPic) (.inr (by omega)))).trans (Chg.set_ (wc.setCell ⟨(r + 1), 3, none⟩ (.bool d2.hasPic)) (r + 1) 6 (.bool d2.hasLevel) (.inr (by omega)))).trans (Chg.set_ ((wc.setCell ⟨(r + 1), 3, none⟩ (.bool d2.hasPic)).setCell ⟨(r + 1), 6, none⟩ (.bool d2.hasLevel)) (r + 1) 8 (.bool d2.hasTid) (.inr (by omega)))).trans (Chg.set_ (((wc.setCell ⟨(r + 1), 3, none⟩ (.bool d2.hasPic)).setCell ⟨(r + 1), 6, none⟩ (.bool d2.hasLevel)).setCell ⟨(r + 1), 8, none⟩ (.bool d2.hasTid)) (r + 1) 9 (.bool d2.hasKey) (.inr (by omega))))
    simp only [List.setIfInBounds_toArray, List.set_cons_zero, List.set_cons_succ] at hd4
    generalize hgw : ((((wc.setCell ⟨r + 1, 3, none⟩ (.bool d2.hasPic)).setCell ⟨r + 1, 6, none⟩ (.bool d2.hasLevel)).setCell ⟨r + 1, 8, none⟩ (.bool d2.hasTid)).setCell ⟨r + 1, 9, none⟩ (.bool d2.hasKey)) = w4 at *
    clear hgw
    have hdv : Blk w4 (r + 1) 45 #[.bool d2.alone, .bool d2.start, .int .i64 d2.part, .bool d2.hasPic, .bool d2.wide, .int .i64 d2.pic, .bool d2.hasLevel, .int .i64 d2.level, .bool d2.hasTid, .bool d2.hasKey, .int .i64 d2.tid, .bool d2.sync, .int .i64 d2.key] := by
      obtain ⟨q1, q2, q3, q4, q5, q6⟩ := HD2.out
      rw [q1, q2, q3, q4, q5, q6]
      exact hd4
    clear hr3 hg3 hd3 hd4 HD2 B2
    obtain ⟨⟨y0, y1, y2, y3, y4, y5⟩, yf, _⟩ := hg4.sixR
    obtain ⟨⟨x0, x1, x2, x3, x4, x5, x6, x7, x8, x9, x10, x11, x12⟩, xf, _⟩ := hdv.thirteen
    go_upto_if 49 with fail
    go_cut [] (fun wx => Blk wx g 105 #[.slice A n c, .int .i64 (s3.at_ : Int), .bool s3.short, .int .i64 s3.p, .int .i64 s3.l, .int .i64 s3.k] ∧ Blk wx (r + 1) 45 #[.bool d3.alone, .bool d3.start, .int .i64 d3.part, .bool d3.hasPic, .bool d3.wide, .int .i64 d3.pic, .bool d3.hasLevel, .int .i64 d3.level, .bool d3.hasTid, .bool d3.hasKey, .int .i64 d3.tid, .bool d3.sync, .int .i64 d3.key] ∧ Blk wx r 45 #[.bool false, .bool false, .int .i64 0, .bool false, .bool false, .int .i64 0, .bool false, .int .i64 0, .bool false, .bool false, .int .i64 0, .bool false, .int .i64 0] ∧ Chg (fun x => x = g ∨ r ≤ x) w wx)
    case first =>
      obtain ⟨k1, k2⟩ := H3.out
      unfold st3 at k1
      unfold sd3 at k2
      by_cases h1 : d2.hasPic = true
      · rw [if_pos h1] at k1 k2
        have S1 := hide (fun W hX h hq => picture_any g (r + 1) (by omega) A n c b s2 d2 W0 W hb hX h0g (HSS.out _ (.inr (by omega))) h hq hn hat2 s3 k1 d3 k2)
        rw [h1]
        clear k1 k2 h1
        go_wp2_with fail
        refine (S1.out _ (hC.ext W0 HSS.out hE) hg4 hdv).mono ?_
        rintro e w5 ⟨rfl, hg5, hd5, hC1⟩
        have hr5 := hC1.blk r _ _ (by show ¬ (r = g ∨ r = r + 1); omega) hr4
        replace hC := hC.trans (hC1.mono fun x e => e.elim .inl fun e => .inr (by omega))
        go_wp2_with fail
        go_meet
        case rel => exact ⟨hg5, hd5, hr5, hC⟩
      · rw [if_neg h1] at k1 k2
        subst k1 k2
        have h1d : d2.hasPic = false := by simpa using h1
        rw [h1d]
        go_wp2_with fail
        go_meet
        case rel => exact ⟨hg4, hdv, hr4, hC⟩
    case rest =>
      obtain ⟨hg5, hd5, hr5, hC5⟩ := hcut
      clear hC hg4 hdv hr4 H3 
      clear y0 y1 y2 y3 y4 y5 yf x0 x1 x2 x3 x4 x5 x6 x7 x8 x9 x10 x11 x12 xf
      have hC := hC5
      clear hC5
      obtain ⟨⟨y0, y1, y2, y3, y4, y5⟩, yf, _⟩ := hg5.sixR
      obtain ⟨⟨x0, x1, x2, x3, x4, x5, x6, x7, x8, x9, x10, x11, x12⟩, xf, _⟩ := hd5.thirteen
      go_upto_if 53 with fail
      go_cut [] (fun wx => Blk wx g 105 #[.slice A n c, .int .i64 (s4.at_ : Int), .bool s4.short, .int .i64 s4.p, .int .i64 s4.l, .int .i64 s4.k] ∧ Blk wx (r + 1) 45 #[.bool d4.alone, .bool d4.start, .int .i64 d4.part, .bool d4.hasPic, .bool d4.wide, .int .i64 d4.pic, .bool d4.hasLevel, .int .i64 d4.level, .bool d4.hasTid, .bool d4.hasKey, .int .i64 d4.tid, .bool d4.sync, .int .i64 d4.key] ∧ Blk wx r 45 #[.bool false, .bool false, .int .i64 0, .bool false, .bool false, .int .i64 0, .bool false, .int .i64 0, .bool false, .bool false, .int .i64 0, .bool false, .int .i64 0] ∧ Chg (fun x => x = g ∨ r ≤ x) w wx)
      case first =>
        obtain ⟨k1, k2⟩ := H4.out
        unfold st4 at k1
        unfold sd4 at k2
        by_cases h1 : d3.hasLevel = true
        · rw [if_pos h1] at k1 k2
          obtain ⟨v, hv⟩ : ∃ v, tkN b s3 1 = v := ⟨_, rfl⟩
          obtain ⟨a, ha⟩ : ∃ v, tkA b s3 1 = v := ⟨_, rfl⟩
          obtain ⟨t, ht⟩ : ∃ v, tkS b s3 1 = v := ⟨_, rfl⟩
          have S1 := hide (fun W h h' => take_any g A n c b 1 s3 W h h' (by omega) (by omega) hn hat3 v hv a ha t ht)
          rw [h1]
          rw [ht, ha] at k1
          rw [hv] at k2
          have K12 := hide (And.intro k1 k2)
          clear k1 k2 h1 hv ha ht
          go_wp2_with fail
          refine (S1.out _ (hb.ext (hC.ext W0 HSS.out hE)) hg5).mono ?_
          rintro e w6 ⟨rfl, hg6, hC1⟩
          have hr6 := hC1.blk r _ _ (by show ¬ r = g; omega) hr5
          have hd6 := hC1.blk (r + 1) _ _ (by show ¬ r + 1 = g; omega) hd5
          replace hC := hC.trans (hC1.mono fun x e => .inl e)
          clear y0 y1 y2 y3 y4 y5 yf x0 x1 x2 x3 x4 x5 x6 x7 x8 x9 x10 x11 x12 xf
          obtain ⟨⟨y0, y1, y2, y3, y4, y5⟩, yf, _⟩ := hg6.sixR
          obtain ⟨⟨x0, x1, x2, x3, x4, x5, x6, x7, x8, x9, x10, x11, x12⟩, xf, _⟩ := hd6.thirteen
          go_wp2_with fail
          go_meet
          case rel =>
            obtain ⟨rfl, rfl⟩ := K12.out
            have hd7 := (hd6.set_ 7 (.int .i64 (v : Int))).far (p := ⟨g, 4, none⟩) (by show ¬ r + 1 = g; omega) (.int .i64 a)
            have hg7 := (hg6.far (p := ⟨r + 1, 7, none⟩) (by show ¬ g = r + 1; omega) (.int .i64 (v : Int))).set_ 4 (.int .i64 a)
            have hr7 := (hr6.far (p := ⟨r + 1, 7, none⟩) (by show ¬ r = r + 1; omega) (.int .i64 (v : Int))).far (p := ⟨g, 4, none⟩) (by show ¬ r = g; omega) (.int .i64 a)
            simp only [List.setIfInBounds_toArray, List.set_cons_zero, List.set_cons_succ] at hd7 hg7
            exact ⟨hg7, hd7, hr7, (hC.trans (Chg.set_ w6 (r + 1) 7 _ (.inr (by omega)))).trans (Chg.set_ _ g 4 _ (.inl rfl))⟩
        · rw [if_neg h1] at k1 k2
          subst k1 k2
          have h1d : d3.hasLevel = false := by simpa using h1
          rw [h1d]
          go_wp2_with fail
          go_meet
          case rel => exact ⟨hg5, hd5, hr5, hC⟩
      case rest =>
        obtain ⟨hg6, hd6, hr6, hC6⟩ := hcut
        clear hC hg5 hd5 hr5 H4 
        clear y0 y1 y2 y3 y4 y5 yf x0 x1 x2 x3 x4 x5 x6 x7 x8 x9 x10 x11 x12 xf
        have hC := hC6
        clear hC6
        obtain ⟨⟨y0, y1, y2, y3, y4, y5⟩, yf, _⟩ := hg6.sixR
        obtain ⟨⟨x0, x1, x2, x3, x4, x5, x6, x7, x8, x9, x10, x11, x12⟩, xf, _⟩ := hd6.thirteen
        go_upto_region 12 with fail
        go_cut [68] (fun v wx => v = .bool (d4.hasTid || d4.hasKey) ∧ wx = wc)
        case first =>
          by_cases h1 : d4.hasTid = true
          · rw [h1] at x8
            go_wp2_with fail
            go_meet
            case rel => exact ⟨by rw [h1]; rfl, rfl⟩
          · have h1d : d4.hasTid = false := by simpa using h1
            rw [h1d] at x8
            go_wp2_with fail
            go_meet
            case rel => exact ⟨by rw [h1d]; rfl, rfl⟩
        case rest =>
          obtain ⟨rfl, rfl⟩ := hcut
          go_upto_if 68 with fail
          go_cut [] (fun wx => Blk wx g 105 #[.slice A n c, .int .i64 (s5.at_ : Int), .bool s5.short, .int .i64 s5.p, .int .i64 s5.l, .int .i64 s5.k] ∧ Blk wx (r + 1) 45 #[.bool d5.alone, .bool d5.start, .int .i64 d5.part, .bool d5.hasPic, .bool d5.wide, .int .i64 d5.pic, .bool d5.hasLevel, .int .i64 d5.level, .bool d5.hasTid, .bool d5.hasKey, .int .i64 d5.tid, .bool d5.sync, .int .i64 d5.key] ∧ Blk wx r 45 #[.bool false, .bool false, .int .i64 0, .bool false, .bool false, .int .i64 0, .bool false, .int .i64 0, .bool false, .bool false, .int .i64 0, .bool false, .int .i64 0] ∧ Chg (fun x => x = g ∨ r ≤ x) w wx)
          case first =>
            obtain ⟨k1, k2⟩ := H5.out
            unfold st5 at k1
            unfold sd5 at k2
            by_cases h1 : d4.hasTid = true ∨ d4.hasKey = true
            · rw [if_pos h1] at k1 k2
              have S1 := hide (fun W hX h hq => layers_any g (r + 1) (by omega) A n c b s4 d4 W (hb.ext hX) h hq hn hat4 s5 k1 d5 k2)
              have h1d : (d4.hasTid || d4.hasKey) = true := by simpa using h1
              rw [h1d]
              clear k1 k2 h1 h1d
              go_wp2_with fail
              refine (S1.out _ (hC.ext W0 HSS.out hE) hg6 hd6).mono ?_
              rintro e w7 ⟨rfl, hg7, hd7, hC1⟩
              have hr7 := hC1.blk r _ _ (by show ¬ (r = g ∨ r = r + 1); omega) hr6
              replace hC := hC.trans (hC1.mono fun x e => e.elim .inl fun e => .inr (by omega))
              go_wp2_with fail
              go_meet
              case rel => exact ⟨hg7, hd7, hr7, hC⟩
            · rw [if_neg h1] at k1 k2
              subst k1 k2
              have h1d : (d4.hasTid || d4.hasKey) = false := by simpa using h1
              rw [h1d]
              go_wp2_with fail
              go_meet
              case rel => exact ⟨hg6, hd6, hr6, hC⟩
          case rest =>
            obtain ⟨hg7, hd7, hr7, hC7⟩ := hcut
            clear hC hg6 hd6 hr6 H5
            clear y0 y1 y2 y3 y4 y5 yf x0 x1 x2 x3 x4 x5 x6 x7 x8 x9 x10 x11 x12 xf
            have hC := hC7
            clear hC7
            obtain ⟨⟨y0, y1, y2, y3, y4, y5⟩, yf, _⟩ := hg7.sixR
            obtain ⟨⟨x0, x1, x2, x3, x4, x5, x6, x7, x8, x9, x10, x11, x12⟩, xf, _⟩ := hd7.thirteen
            obtain ⟨⟨z0, z1, z2, z3, z4, z5, z6, z7, z8, z9, z10, z11, z12⟩, zf, _⟩ := hr7.thirteen
            obtain ⟨hee, hvv⟩ := HEV.out
            clear HEV
            by_cases h1 : s5.short = true
            · have hR : rdE s5 d5 = 2 := by unfold rdE; rw [if_pos h1]
              have hV : rdV s5 d5 = v8Zero := by unfold rdV; rw [hR]; rfl
              obtain rfl : 2 = ee := by rw [← hee, hR]
              obtain rfl : v8Zero = vv := by rw [← hvv, hV]
              rw [h1] at y2
              clear hR hV hee hvv h1
              go_wp2_with fail
              have hgf : Blk (((((((((((((wc.setCell ⟨r, 0, none⟩ (.bool false)).setCell ⟨r, 1, none⟩ (.bool false)).setCell ⟨r, 2, none⟩ (.int .i64 0)).setCell ⟨r, 3, none⟩ (.bool false)).setCell ⟨r, 4, none⟩ (.bool false)).setCell ⟨r, 5, none⟩ (.int .i64 0)).setCell ⟨r, 6, none⟩ (.bool false)).setCell ⟨r, 7, none⟩ (.int .i64 0)).setCell ⟨r, 8, none⟩ (.bool false)).setCell ⟨r, 9, none⟩ (.bool false)).setCell ⟨r, 10, none⟩ (.int .i64 0)).setCell ⟨r, 11, none⟩ (.bool false)).setCell ⟨r, 12, none⟩ (.int .i64 0)) g 105 #[.slice A n c, .int .i64 (s5.at_ : Int), .bool s5.short, .int .i64 s5.p, .int .i64 s5.l, .int .i64 s5.k] := Blk.far13 hg7 (by omega)
              have hrf : Blk (((((((((((((wc.setCell ⟨r, 0, none⟩ (.bool false)).setCell ⟨r, 1, none⟩ (.bool false)).setCell ⟨r, 2, none⟩ (.int .i64 0)).setCell ⟨r, 3, none⟩ (.bool false)).setCell ⟨r, 4, none⟩ (.bool false)).setCell ⟨r, 5, none⟩ (.int .i64 0)).setCell ⟨r, 6, none⟩ (.bool false)).setCell ⟨r, 7, none⟩ (.int .i64 0)).setCell ⟨r, 8, none⟩ (.bool false)).setCell ⟨r, 9, none⟩ (.bool false)).setCell ⟨r, 10, none⟩ (.int .i64 0)).setCell ⟨r, 11, none⟩ (.bool false)).setCell ⟨r, 12, none⟩ (.int .i64 0)) r 45 #[(.bool false), (.bool false), (.int .i64 0), (.bool false), (.bool false), (.int .i64 0), (.bool false), (.int .i64 0), (.bool false), (.bool false), (.int .i64 0), (.bool false), (.int .i64 0)] := Blk.put13 hr7
              have hCf : Chg (· = g) w (((((((((((((wc.setCell ⟨r, 0, none⟩ (.bool false)).setCell ⟨r, 1, none⟩ (.bool false)).setCell ⟨r, 2, none⟩ (.int .i64 0)).setCell ⟨r, 3, none⟩ (.bool false)).setCell ⟨r, 4, none⟩ (.bool false)).setCell ⟨r, 5, none⟩ (.int .i64 0)).setCell ⟨r, 6, none⟩ (.bool false)).setCell ⟨r, 7, none⟩ (.int .i64 0)).setCell ⟨r, 8, none⟩ (.bool false)).setCell ⟨r, 9, none⟩ (.bool false)).setCell ⟨r, 10, none⟩ (.int .i64 0)).setCell ⟨r, 11, none⟩ (.bool false)).setCell ⟨r, 12, none⟩ (.int .i64 0)) := HF.out _ (Chg.put13 hC (.inr (Nat.le_refl _)))
              clear y0 y1 y2 y3 y4 y5 yf x0 x1 x2 x3 x4 x5 x6 x7 x8 x9 x10 x11 x12 xf z0 z1 z2 z3 z4 z5 z6 z7 z8 z9 z10 z11 z12 zf
              generalize hgw : (((((((((((((wc.setCell ⟨r, 0, none⟩ (.bool false)).setCell ⟨r, 1, none⟩ (.bool false)).setCell ⟨r, 2, none⟩ (.int .i64 0)).setCell ⟨r, 3, none⟩ (.bool false)).setCell ⟨r, 4, none⟩ (.bool false)).setCell ⟨r, 5, none⟩ (.int .i64 0)).setCell ⟨r, 6, none⟩ (.bool false)).setCell ⟨r, 7, none⟩ (.int .i64 0)).setCell ⟨r, 8, none⟩ (.bool false)).setCell ⟨r, 9, none⟩ (.bool false)).setCell ⟨r, 10, none⟩ (.int .i64 0)).setCell ⟨r, 11, none⟩ (.bool false)).setCell ⟨r, 12, none⟩ (.int .i64 0)) = wf at *
              clear hgw
              obtain ⟨⟨z0, z1, z2, z3, z4, z5, z6, z7, z8, z9, z10, z11, z12⟩, zf, _⟩ := hrf.thirteen
              exact bodyPost_ret (v := .tuple #[.agg #[.bool false, .bool false, .int .i64 0, .bool false, .bool false, .int .i64 0, .bool false, .int .i64 0, .bool false, .bool false, .int .i64 0, .bool false, .int .i64 0], .int .i64 2]) (by simp [results, Try.results51, go_sem, z0, z1, z2, z3, z4, z5, z6, z7, z8, z9, z10, z11, z12]) rfl ⟨rfl, hgf, hCf⟩
            · have h1d : s5.short = false := by simpa using h1
              rw [h1d] at y2
              by_cases h2 : d5.hasLevel = true ∧ d5.hasPic = false
              · have hR : rdE s5 d5 = 6 := by unfold rdE; rw [if_neg h1, if_pos h2]
                have hV : rdV s5 d5 = v8Zero := by unfold rdV; rw [hR]; rfl
                obtain rfl : 6 = ee := by rw [← hee, hR]
                obtain rfl : v8Zero = vv := by rw [← hvv, hV]
                rw [h2.1] at x6
                rw [h2.2] at x3
                clear hR hV hee hvv h1 h2 h1d
                go_wp2_with fail
                have hgf : Blk (((((((((((((wc.setCell ⟨r, 0, none⟩ (.bool false)).setCell ⟨r, 1, none⟩ (.bool false)).setCell ⟨r, 2, none⟩ (.int .i64 0)).setCell ⟨r, 3, none⟩ (.bool false)).setCell ⟨r, 4, none⟩ (.bool false)).setCell ⟨r, 5, none⟩ (.int .i64 0)).setCell ⟨r, 6, none⟩ (.bool false)).setCell ⟨r, 7, none⟩ (.int .i64 0)).setCell ⟨r, 8, none⟩ (.bool false)).setCell ⟨r, 9, none⟩ (.bool false)).setCell ⟨r, 10, none⟩ (.int .i64 0)).setCell ⟨r, 11, none⟩ (.bool false)).setCell ⟨r, 12, none⟩ (.int .i64 0)) g 105 #[.slice A n c, .int .i64 (s5.at_ : Int), .bool s5.short, .int .i64 s5.p, .int .i64 s5.l, .int .i64 s5.k] := Blk.far13 hg7 (by omega)
                have hrf : Blk (((((((((((((wc.setCell ⟨r, 0, none⟩ (.bool false)).setCell ⟨r, 1, none⟩ (.bool false)).setCell ⟨r, 2, none⟩ (.int .i64 0)).setCell ⟨r, 3, none⟩ (.bool false)).setCell ⟨r, 4, none⟩ (.bool false)).setCell ⟨r, 5, none⟩ (.int .i64 0)).setCell ⟨r, 6, none⟩ (.bool false)).setCell ⟨r, 7, none⟩ (.int .i64 0)).setCell ⟨r, 8, none⟩ (.bool false)).setCell ⟨r, 9, none⟩ (.bool false)).setCell ⟨r, 10, none⟩ (.int .i64 0)).setCell ⟨r, 11, none⟩ (.bool false)).setCell ⟨r, 12, none⟩ (.int .i64 0)) r 45 #[(.bool false), (.bool false), (.int .i64 0), (.bool false), (.bool false), (.int .i64 0), (.bool false), (.int .i64 0), (.bool false), (.bool false), (.int .i64 0), (.bool false), (.int .i64 0)] := Blk.put13 hr7
                have hCf : Chg (· = g) w (((((((((((((wc.setCell ⟨r, 0, none⟩ (.bool false)).setCell ⟨r, 1, none⟩ (.bool false)).setCell ⟨r, 2, none⟩ (.int .i64 0)).setCell ⟨r, 3, none⟩ (.bool false)).setCell ⟨r, 4, none⟩ (.bool false)).setCell ⟨r, 5, none⟩ (.int .i64 0)).setCell ⟨r, 6, none⟩ (.bool false)).setCell ⟨r, 7, none⟩ (.int .i64 0)).setCell ⟨r, 8, none⟩ (.bool false)).setCell ⟨r, 9, none⟩ (.bool false)).setCell ⟨r, 10, none⟩ (.int .i64 0)).setCell ⟨r, 11, none⟩ (.bool false)).setCell ⟨r, 12, none⟩ (.int .i64 0)) := HF.out _ (Chg.put13 hC (.inr (Nat.le_refl _)))
                clear y0 y1 y2 y3 y4 y5 yf x0 x1 x2 x3 x4 x5 x6 x7 x8 x9 x10 x11 x12 xf z0 z1 z2 z3 z4 z5 z6 z7 z8 z9 z10 z11 z12 zf
                generalize hgw : (((((((((((((wc.setCell ⟨r, 0, none⟩ (.bool false)).setCell ⟨r, 1, none⟩ (.bool false)).setCell ⟨r, 2, none⟩ (.int .i64 0)).setCell ⟨r, 3, none⟩ (.bool false)).setCell ⟨r, 4, none⟩ (.bool false)).setCell ⟨r, 5, none⟩ (.int .i64 0)).setCell ⟨r, 6, none⟩ (.bool false)).setCell ⟨r, 7, none⟩ (.int .i64 0)).setCell ⟨r, 8, none⟩ (.bool false)).setCell ⟨r, 9, none⟩ (.bool false)).setCell ⟨r, 10, none⟩ (.int .i64 0)).setCell ⟨r, 11, none⟩ (.bool false)).setCell ⟨r, 12, none⟩ (.int .i64 0)) = wf at *
                clear hgw
                obtain ⟨⟨z0, z1, z2, z3, z4, z5, z6, z7, z8, z9, z10, z11, z12⟩, zf, _⟩ := hrf.thirteen
                exact bodyPost_ret (v := .tuple #[.agg #[.bool false, .bool false, .int .i64 0, .bool false, .bool false, .int .i64 0, .bool false, .int .i64 0, .bool false, .bool false, .int .i64 0, .bool false, .int .i64 0], .int .i64 6]) (by simp [results, Try.results51, go_sem, z0, z1, z2, z3, z4, z5, z6, z7, z8, z9, z10, z11, z12]) rfl ⟨rfl, hgf, hCf⟩
              · have hR : rdE s5 d5 = 0 := by unfold rdE; rw [if_neg h1, if_neg h2]
                have hV : rdV s5 d5 = d5 := by unfold rdV; rw [hR]; rfl
                obtain rfl : 0 = ee := by rw [← hee, hR]
                obtain rfl : d5 = vv := by rw [← hvv, hV]
                clear hR hV hee hvv
                by_cases h3 : d5.hasLevel = true
                · have h4 : d5.hasPic = true := by simpa [h3] using h2
                  rw [h3] at x6
                  rw [h4] at x3
                  clear h1 h1d h2
                  go_wp2_with fail
                  have hgf : Blk (((((((((((((wc.setCell ⟨r, 0, none⟩ (.bool d5.alone)).setCell ⟨r, 1, none⟩ (.bool d5.start)).setCell ⟨r, 2, none⟩ (.int .i64 d5.part)).setCell ⟨r, 3, none⟩ (.bool true)).setCell ⟨r, 4, none⟩ (.bool d5.wide)).setCell ⟨r, 5, none⟩ (.int .i64 d5.pic)).setCell ⟨r, 6, none⟩ (.bool true)).setCell ⟨r, 7, none⟩ (.int .i64 d5.level)).setCell ⟨r, 8, none⟩ (.bool d5.hasTid)).setCell ⟨r, 9, none⟩ (.bool d5.hasKey)).setCell ⟨r, 10, none⟩ (.int .i64 d5.tid)).setCell ⟨r, 11, none⟩ (.bool d5.sync)).setCell ⟨r, 12, none⟩ (.int .i64 d5.key)) g 105 #[.slice A n c, .int .i64 (s5.at_ : Int), .bool s5.short, .int .i64 s5.p, .int .i64 s5.l, .int .i64 s5.k] := Blk.far13 hg7 (by omega)
                  have hrf : Blk (((((((((((((wc.setCell ⟨r, 0, none⟩ (.bool d5.alone)).setCell ⟨r, 1, none⟩ (.bool d5.start)).setCell ⟨r, 2, none⟩ (.int .i64 d5.part)).setCell ⟨r, 3, none⟩ (.bool true)).setCell ⟨r, 4, none⟩ (.bool d5.wide)).setCell ⟨r, 5, none⟩ (.int .i64 d5.pic)).setCell ⟨r, 6, none⟩ (.bool true)).setCell ⟨r, 7, none⟩ (.int .i64 d5.level)).setCell ⟨r, 8, none⟩ (.bool d5.hasTid)).setCell ⟨r, 9, none⟩ (.bool d5.hasKey)).setCell ⟨r, 10, none⟩ (.int .i64 d5.tid)).setCell ⟨r, 11, none⟩ (.bool d5.sync)).setCell ⟨r, 12, none⟩ (.int .i64 d5.key)) r 45 #[(.bool d5.alone), (.bool d5.start), (.int .i64 d5.part), (.bool true), (.bool d5.wide), (.int .i64 d5.pic), (.bool true), (.int .i64 d5.level), (.bool d5.hasTid), (.bool d5.hasKey), (.int .i64 d5.tid), (.bool d5.sync), (.int .i64 d5.key)] := Blk.put13 hr7
                  have hCf : Chg (· = g) w (((((((((((((wc.setCell ⟨r, 0, none⟩ (.bool d5.alone)).setCell ⟨r, 1, none⟩ (.bool d5.start)).setCell ⟨r, 2, none⟩ (.int .i64 d5.part)).setCell ⟨r, 3, none⟩ (.bool true)).setCell ⟨r, 4, none⟩ (.bool d5.wide)).setCell ⟨r, 5, none⟩ (.int .i64 d5.pic)).setCell ⟨r, 6, none⟩ (.bool true)).setCell ⟨r, 7, none⟩ (.int .i64 d5.level)).setCell ⟨r, 8, none⟩ (.bool d5.hasTid)).setCell ⟨r, 9, none⟩ (.bool d5.hasKey)).setCell ⟨r, 10, none⟩ (.int .i64 d5.tid)).setCell ⟨r, 11, none⟩ (.bool d5.sync)).setCell ⟨r, 12, none⟩ (.int .i64 d5.key)) := HF.out _ (Chg.put13 hC (.inr (Nat.le_refl _)))
                  clear y0 y1 y2 y3 y4 y5 yf x0 x1 x2 x3 x4 x5 x6 x7 x8 x9 x10 x11 x12 xf z0 z1 z2 z3 z4 z5 z6 z7 z8 z9 z10 z11 z12 zf
                  generalize hgw : (((((((((((((wc.setCell ⟨r, 0, none⟩ (.bool d5.alone)).setCell ⟨r, 1, none⟩ (.bool d5.start)).setCell ⟨r, 2, none⟩ (.int .i64 d5.part)).setCell ⟨r, 3, none⟩ (.bool true)).setCell ⟨r, 4, none⟩ (.bool d5.wide)).setCell ⟨r, 5, none⟩ (.int .i64 d5.pic)).setCell ⟨r, 6, none⟩ (.bool true)).setCell ⟨r, 7, none⟩ (.int .i64 d5.level)).setCell ⟨r, 8, none⟩ (.bool d5.hasTid)).setCell ⟨r, 9, none⟩ (.bool d5.hasKey)).setCell ⟨r, 10, none⟩ (.int .i64 d5.tid)).setCell ⟨r, 11, none⟩ (.bool d5.sync)).setCell ⟨r, 12, none⟩ (.int .i64 d5.key)) = wf at *
                  clear hgw
                  obtain ⟨⟨z0, z1, z2, z3, z4, z5, z6, z7, z8, z9, z10, z11, z12⟩, zf, _⟩ := hrf.thirteen
                  exact bodyPost_ret (v := .tuple #[.agg #[.bool d5.alone, .bool d5.start, .int .i64 d5.part, .bool true, .bool d5.wide, .int .i64 d5.pic, .bool true, .int .i64 d5.level, .bool d5.hasTid, .bool d5.hasKey, .int .i64 d5.tid, .bool d5.sync, .int .i64 d5.key], .int .i64 0]) (by simp [results, Try.results51, go_sem, z0, z1, z2, z3, z4, z5, z6, z7, z8, z9, z10, z11, z12]) rfl ⟨by rw [h3, h4], hgf, hCf⟩
                · have h4 : d5.hasLevel = false := by simpa using h3
                  rw [h4] at x6
                  clear h1 h1d h2 h3
                  go_wp2_with fail
                  have hgf : Blk (((((((((((((wc.setCell ⟨r, 0, none⟩ (.bool d5.alone)).setCell ⟨r, 1, none⟩ (.bool d5.start)).setCell ⟨r, 2, none⟩ (.int .i64 d5.part)).setCell ⟨r, 3, none⟩ (.bool d5.hasPic)).setCell ⟨r, 4, none⟩ (.bool d5.wide)).setCell ⟨r, 5, none⟩ (.int .i64 d5.pic)).setCell ⟨r, 6, none⟩ (.bool false)).setCell ⟨r, 7, none⟩ (.int .i64 d5.level)).setCell ⟨r, 8, none⟩ (.bool d5.hasTid)).setCell ⟨r, 9, none⟩ (.bool d5.hasKey)).setCell ⟨r, 10, none⟩ (.int .i64 d5.tid)).setCell ⟨r, 11, none⟩ (.bool d5.sync)).setCell ⟨r, 12, none⟩ (.int .i64 d5.key)) g 105 #[.slice A n c, .int .i64 (s5.at_ : Int), .bool s5.short, .int .i64 s5.p, .int .i64 s5.l, .int .i64 s5.k] := Blk.far13 hg7 (by omega)
                  have hrf : Blk (((((((((((((wc.setCell ⟨r, 0, none⟩ (.bool d5.alone)).setCell ⟨r, 1, none⟩ (.bool d5.start)).setCell ⟨r, 2, none⟩ (.int .i64 d5.part)).setCell ⟨r, 3, none⟩ (.bool d5.hasPic)).setCell ⟨r, 4, none⟩ (.bool d5.wide)).setCell ⟨r, 5, none⟩ (.int .i64 d5.pic)).setCell ⟨r, 6, none⟩ (.bool false)).setCell ⟨r, 7, none⟩ (.int .i64 d5.level)).setCell ⟨r, 8, none⟩ (.bool d5.hasTid)).setCell ⟨r, 9, none⟩ (.bool d5.hasKey)).setCell ⟨r, 10, none⟩ (.int .i64 d5.tid)).setCell ⟨r, 11, none⟩ (.bool d5.sync)).setCell ⟨r, 12, none⟩ (.int .i64 d5.key)) r 45 #[(.bool d5.alone), (.bool d5.start), (.int .i64 d5.part), (.bool d5.hasPic), (.bool d5.wide), (.int .i64 d5.pic), (.bool false), (.int .i64 d5.level), (.bool d5.hasTid), (.bool d5.hasKey), (.int .i64 d5.tid), (.bool d5.sync), (.int .i64 d5.key)] := Blk.put13 hr7
                  have hCf : Chg (· = g) w (((((((((((((wc.setCell ⟨r, 0, none⟩ (.bool d5.alone)).setCell ⟨r, 1, none⟩ (.bool d5.start)).setCell ⟨r, 2, none⟩ (.int .i64 d5.part)).setCell ⟨r, 3, none⟩ (.bool d5.hasPic)).setCell ⟨r, 4, none⟩ (.bool d5.wide)).setCell ⟨r, 5, none⟩ (.int .i64 d5.pic)).setCell ⟨r, 6, none⟩ (.bool false)).setCell ⟨r, 7, none⟩ (.int .i64 d5.level)).setCell ⟨r, 8, none⟩ (.bool d5.hasTid)).setCell ⟨r, 9, none⟩ (.bool d5.hasKey)).setCell ⟨r, 10, none⟩ (.int .i64 d5.tid)).setCell ⟨r, 11, none⟩ (.bool d5.sync)).setCell ⟨r, 12, none⟩ (.int .i64 d5.key)) := HF.out _ (Chg.put13 hC (.inr (Nat.le_refl _)))
                  clear y0 y1 y2 y3 y4 y5 yf x0 x1 x2 x3 x4 x5 x6 x7 x8 x9 x10 x11 x12 xf z0 z1 z2 z3 z4 z5 z6 z7 z8 z9 z10 z11 z12 zf
                  generalize hgw : (((((((((((((wc.setCell ⟨r, 0, none⟩ (.bool d5.alone)).setCell ⟨r, 1, none⟩ (.bool d5.start)).setCell ⟨r, 2, none⟩ (.int .i64 d5.part)).setCell ⟨r, 3, none⟩ (.bool d5.hasPic)).setCell ⟨r, 4, none⟩ (.bool d5.wide)).setCell ⟨r, 5, none⟩ (.int .i64 d5.pic)).setCell ⟨r, 6, none⟩ (.bool false)).setCell ⟨r, 7, none⟩ (.int .i64 d5.level)).setCell ⟨r, 8, none⟩ (.bool d5.hasTid)).setCell ⟨r, 9, none⟩ (.bool d5.hasKey)).setCell ⟨r, 10, none⟩ (.int .i64 d5.tid)).setCell ⟨r, 11, none⟩ (.bool d5.sync)).setCell ⟨r, 12, none⟩ (.int .i64 d5.key)) = wf at *
                  clear hgw
                  obtain ⟨⟨z0, z1, z2, z3, z4, z5, z6, z7, z8, z9, z10, z11, z12⟩, zf, _⟩ := hrf.thirteen
                  exact bodyPost_ret (v := .tuple #[.agg #[.bool d5.alone, .bool d5.start, .int .i64 d5.part, .bool d5.hasPic, .bool d5.wide, .int .i64 d5.pic, .bool false, .int .i64 d5.level, .bool d5.hasTid, .bool d5.hasKey, .int .i64 d5.tid, .bool d5.sync, .int .i64 d5.key], .int .i64 0]) (by simp [results, Try.results51, go_sem, z0, z1, z2, z3, z4, z5, z6, z7, z8, z9, z10, z11, z12]) rfl ⟨by rw [h4], hgf, hCf⟩
end Go.Proofs.Ytcdacnhggpfnaaa

/- vp8.Read: the walk. -/
import Derived.Test.YtcdacnhggpfnaaaVp8D
import Derived.Test.YtcdacnhggpfnaaaPlainVp8B
import Derived.RegionTactic
import Derived.BigRegion
namespace Go.Proofs.Ytcdacnhggpfnaaa
open Go.RowKit
set_option maxRecDepth 100000 in
set_option maxHeartbeats 4000000 in
theorem v8read_any (A : Option Addr) (n c : Nat) (b : List UInt8) (w : World) (hb : Bytes w A n c b) (hn : n ≤ 1000000) (d : V8) (hd : vrD b = d) (N : Nat) (hN : vrN b = N) (E : Int) (hEE : vrE b = E) :
    Calls Try.prog 21 #[.slice A n c] w fun e w' => e = .returned (.tuple #[.agg #[.bool d.alone, .bool d.start, .int .i64 d.part, .bool d.hasPic, .bool d.wide, .int .i64 d.pic, .bool d.hasLevel, .int .i64 d.level, .bool d.hasTid, .bool d.hasKey, .int .i64 d.tid, .bool d.sync, .int .i64 d.key], .int .i64 (N : Int), .int .i64 E]) ∧ Ext w w' := by
  obtain ⟨s5, hs5⟩ : ∃ x, vrS b = x := ⟨_, rfl⟩
  obtain ⟨d5, hd5⟩ : ∃ x, vrD0 b = x := ⟨_, rfl⟩
  unfold vrD at hd
  unfold vrN at hN
  rw [hEE] at hN
  unfold vrE at hEE
  rw [hs5] at hd hN hEE
  rw [hd5] at hd hEE
  have S := hide (fun W g hE h0 hg => rdread_any g A n c b rs0 w W hb hE h0 hg hn (by decide) s5 d5 (Prod.ext hs5 hd5))
  rw [hd, hEE] at S
  have HN := hide hN
  have HD := hide hd
  have HE0 := hide hEE
  clear hs5 hd5 hN hEE hd
  go_enter Try.func21, Try.ntmps21
  go_wp2_with fail
  have hr0 := (Blk.new w 45 #[.bool false, .bool false, .int .i64 0, .bool false, .bool false, .int .i64 0, .bool false, .int .i64 0, .bool false, .bool false, .int .i64 0, .bool false, .int .i64 0]).alloc (.cells #[.slice A n c, .int .i64 0, .bool false, .int .i64 0, .int .i64 0, .int .i64 0] 105)
  have hg0 := Blk.new (w.alloc (.cells #[.bool false, .bool false, .int .i64 0, .bool false, .bool false, .int .i64 0, .bool false, .int .i64 0, .bool false, .bool false, .int .i64 0, .bool false, .int .i64 0] 45)) 105 #[.slice A n c, .int .i64 0, .bool false, .int .i64 0, .int .i64 0, .int .i64 0]
  have hE : Ext w ((w.alloc (.cells #[.bool false, .bool false, .int .i64 0, .bool false, .bool false, .int .i64 0, .bool false, .int .i64 0, .bool false, .bool false, .int .i64 0, .bool false, .int .i64 0] 45)).alloc (.cells #[.slice A n c, .int .i64 0, .bool false, .int .i64 0, .int .i64 0, .int .i64 0] 105)) := ((Ext.refl _).alloc _).alloc _
  simp only [World.size_alloc] at hg0
  obtain ⟨r, hr⟩ : ∃ r, w.heap.size = r := ⟨_, rfl⟩
  rw [hr] at hr0 hg0 S ⊢
  generalize (w.alloc (.cells #[.bool false, .bool false, .int .i64 0, .bool false, .bool false, .int .i64 0, .bool false, .int .i64 0, .bool false, .bool false, .int .i64 0, .bool false, .int .i64 0] 45)).alloc (.cells #[.slice A n c, .int .i64 0, .bool false, .int .i64 0, .int .i64 0, .int .i64 0] 105) = w0 at *
  refine (S.out w0 (r + 1) hE (by omega) hg0).mono ?_
  rintro e w1 ⟨rfl, hg1, hC⟩
  have hr1 := hC.blk r _ _ (by show ¬ r = r + 1; omega) hr0
  replace hE := hC.ext w (fun x e => by omega) hE
  clear hC hg0 hr0 S
  obtain ⟨⟨y0, y1, y2, y3, y4, y5⟩, yf, _⟩ := hg1.sixR
  obtain ⟨⟨z0, z1, z2, z3, z4, z5, z6, z7, z8, z9, z10, z11, z12⟩, zf, _⟩ := hr1.thirteen
  by_cases h0 : E = 0
  · subst h0
    have hN := HN.out
    rw [if_pos rfl] at hN
    go_upto_region 5 with fail
    have hd2 := Blk.new w1 45 #[.bool d.alone, .bool d.start, .int .i64 d.part, .bool d.hasPic, .bool d.wide, .int .i64 d.pic, .bool d.hasLevel, .int .i64 d.level, .bool d.hasTid, .bool d.hasKey, .int .i64 d.tid, .bool d.sync, .int .i64 d.key]
    have hr2 := hr1.alloc (.cells #[.bool d.alone, .bool d.start, .int .i64 d.part, .bool d.hasPic, .bool d.wide, .int .i64 d.pic, .bool d.hasLevel, .int .i64 d.level, .bool d.hasTid, .bool d.hasKey, .int .i64 d.tid, .bool d.sync, .int .i64 d.key] 45)
    have hg2 := hg1.alloc (.cells #[.bool d.alone, .bool d.start, .int .i64 d.part, .bool d.hasPic, .bool d.wide, .int .i64 d.pic, .bool d.hasLevel, .int .i64 d.level, .bool d.hasTid, .bool d.hasKey, .int .i64 d.tid, .bool d.sync, .int .i64 d.key] 45)
    have hE2 := hE.alloc (.cells #[.bool d.alone, .bool d.start, .int .i64 d.part, .bool d.hasPic, .bool d.wide, .int .i64 d.pic, .bool d.hasLevel, .int .i64 d.level, .bool d.hasTid, .bool d.hasKey, .int .i64 d.tid, .bool d.sync, .int .i64 d.key] 45)
    have hlt1 := hg1.lt
    obtain ⟨q, hq⟩ : ∃ q, w1.heap.size = q := ⟨_, rfl⟩
    rw [hq] at hd2 hlt1 ⊢
    clear y0 y1 y2 y3 y4 y5 yf z0 z1 z2 z3 z4 z5 z6 z7 z8 z9 z10 z11 z12 zf hg1 hr1 hE hq
    generalize w1.alloc (.cells #[.bool d.alone, .bool d.start, .int .i64 d.part, .bool d.hasPic, .bool d.wide, .int .i64 d.pic, .bool d.hasLevel, .int .i64 d.level, .bool d.hasTid, .bool d.hasKey, .int .i64 d.tid, .bool d.sync, .int .i64 d.key] 45) = w2 at *
    obtain ⟨⟨y0, y1, y2, y3, y4, y5⟩, yf, _⟩ := hg2.sixR
    obtain ⟨⟨x0, x1, x2, x3, x4, x5, x6, x7, x8, x9, x10, x11, x12⟩, xf, _⟩ := hd2.thirteen
    obtain ⟨⟨z0, z1, z2, z3, z4, z5, z6, z7, z8, z9, z10, z11, z12⟩, zf, _⟩ := hr2.thirteen
    go_region
    have hrf : Blk ((((((((((((((w2.setCell ⟨r, 0, none⟩ (.bool d.alone)).setCell ⟨r, 1, none⟩ (.bool d.start)).setCell ⟨r, 2, none⟩ (.int .i64 d.part)).setCell ⟨r, 3, none⟩ (.bool d.hasPic)).setCell ⟨r, 4, none⟩ (.bool d.wide)).setCell ⟨r, 5, none⟩ (.int .i64 d.pic)).setCell ⟨r, 6, none⟩ (.bool d.hasLevel)).setCell ⟨r, 7, none⟩ (.int .i64 d.level)).setCell ⟨r, 8, none⟩ (.bool d.hasTid)).setCell ⟨r, 9, none⟩ (.bool d.hasKey)).setCell ⟨r, 10, none⟩ (.int .i64 d.tid)).setCell ⟨r, 11, none⟩ (.bool d.sync)).setCell ⟨r, 12, none⟩ (.int .i64 d.key)).drew) r 45 #[.bool d.alone, .bool d.start, .int .i64 d.part, .bool d.hasPic, .bool d.wide, .int .i64 d.pic, .bool d.hasLevel, .int .i64 d.level, .bool d.hasTid, .bool d.hasKey, .int .i64 d.tid, .bool d.sync, .int .i64 d.key] := (Blk.put13 hr2).drew
    have hEf : Ext w ((((((((((((((w2.setCell ⟨r, 0, none⟩ (.bool d.alone)).setCell ⟨r, 1, none⟩ (.bool d.start)).setCell ⟨r, 2, none⟩ (.int .i64 d.part)).setCell ⟨r, 3, none⟩ (.bool d.hasPic)).setCell ⟨r, 4, none⟩ (.bool d.wide)).setCell ⟨r, 5, none⟩ (.int .i64 d.pic)).setCell ⟨r, 6, none⟩ (.bool d.hasLevel)).setCell ⟨r, 7, none⟩ (.int .i64 d.level)).setCell ⟨r, 8, none⟩ (.bool d.hasTid)).setCell ⟨r, 9, none⟩ (.bool d.hasKey)).setCell ⟨r, 10, none⟩ (.int .i64 d.tid)).setCell ⟨r, 11, none⟩ (.bool d.sync)).setCell ⟨r, 12, none⟩ (.int .i64 d.key)).drew) := (Ext.put13 hE2 (Nat.le_of_eq hr)).drew
    clear x0 x1 x2 x3 x4 x5 x6 x7 x8 x9 x10 x11 x12 xf y0 y1 y2 y3 y4 y5 yf z0 z1 z2 z3 z4 z5 z6 z7 z8 z9 z10 z11 z12 zf
    generalize hgw : (((((((((((((w2.setCell ⟨r, 0, none⟩ (.bool d.alone)).setCell ⟨r, 1, none⟩ (.bool d.start)).setCell ⟨r, 2, none⟩ (.int .i64 d.part)).setCell ⟨r, 3, none⟩ (.bool d.hasPic)).setCell ⟨r, 4, none⟩ (.bool d.wide)).setCell ⟨r, 5, none⟩ (.int .i64 d.pic)).setCell ⟨r, 6, none⟩ (.bool d.hasLevel)).setCell ⟨r, 7, none⟩ (.int .i64 d.level)).setCell ⟨r, 8, none⟩ (.bool d.hasTid)).setCell ⟨r, 9, none⟩ (.bool d.hasKey)).setCell ⟨r, 10, none⟩ (.int .i64 d.tid)).setCell ⟨r, 11, none⟩ (.bool d.sync)).setCell ⟨r, 12, none⟩ (.int .i64 d.key)).drew = wf at *
    clear hgw
    obtain ⟨⟨z0, z1, z2, z3, z4, z5, z6, z7, z8, z9, z10, z11, z12⟩, zf, _⟩ := hrf.thirteen
    go_wp2_with fail
    exact bodyPost_ret (v := .tuple #[.agg #[.bool d.alone, .bool d.start, .int .i64 d.part, .bool d.hasPic, .bool d.wide, .int .i64 d.pic, .bool d.hasLevel, .int .i64 d.level, .bool d.hasTid, .bool d.hasKey, .int .i64 d.tid, .bool d.sync, .int .i64 d.key], .int .i64 (N : Int), .int .i64 0]) (by simp [results, Try.results21, go_sem, z0, z1, z2, z3, z4, z5, z6, z7, z8, z9, z10, z11, z12]) rfl ⟨rfl, hEf⟩
  · have hne : (E != 0) = true := by rw [bne_iff_ne]; exact h0
    have hN := HN.out
    rw [if_neg h0] at hN
    subst hN
    go_wp2_with fail
    have hV : v8Zero = d := by
      have hD := HD.out
      unfold rdV at hD
      rw [if_neg (by have := HE0.out; rw [this]; exact h0)] at hD
      exact hD
    subst hV
    have hrf : Blk ((((((((((((((w1.setCell ⟨r, 0, none⟩ (.bool false)).setCell ⟨r, 1, none⟩ (.bool false)).setCell ⟨r, 2, none⟩ (.int .i64 0)).setCell ⟨r, 3, none⟩ (.bool false)).setCell ⟨r, 4, none⟩ (.bool false)).setCell ⟨r, 5, none⟩ (.int .i64 0)).setCell ⟨r, 6, none⟩ (.bool false)).setCell ⟨r, 7, none⟩ (.int .i64 0)).setCell ⟨r, 8, none⟩ (.bool false)).setCell ⟨r, 9, none⟩ (.bool false)).setCell ⟨r, 10, none⟩ (.int .i64 0)).setCell ⟨r, 11, none⟩ (.bool false)).setCell ⟨r, 12, none⟩ (.int .i64 0)).alloc (.cells #[.bool v8Zero.alone, .bool v8Zero.start, .int .i64 v8Zero.part, .bool v8Zero.hasPic, .bool v8Zero.wide, .int .i64 v8Zero.pic, .bool v8Zero.hasLevel, .int .i64 v8Zero.level, .bool v8Zero.hasTid, .bool v8Zero.hasKey, .int .i64 v8Zero.tid, .bool v8Zero.sync, .int .i64 v8Zero.key] 45)) r 45 #[.bool false, .bool false, .int .i64 0, .bool false, .bool false, .int .i64 0, .bool false, .int .i64 0, .bool false, .bool false, .int .i64 0, .bool false, .int .i64 0] := (Blk.put13 hr1).alloc _
    have hEf : Ext w ((((((((((((((w1.setCell ⟨r, 0, none⟩ (.bool false)).setCell ⟨r, 1, none⟩ (.bool false)).setCell ⟨r, 2, none⟩ (.int .i64 0)).setCell ⟨r, 3, none⟩ (.bool false)).setCell ⟨r, 4, none⟩ (.bool false)).setCell ⟨r, 5, none⟩ (.int .i64 0)).setCell ⟨r, 6, none⟩ (.bool false)).setCell ⟨r, 7, none⟩ (.int .i64 0)).setCell ⟨r, 8, none⟩ (.bool false)).setCell ⟨r, 9, none⟩ (.bool false)).setCell ⟨r, 10, none⟩ (.int .i64 0)).setCell ⟨r, 11, none⟩ (.bool false)).setCell ⟨r, 12, none⟩ (.int .i64 0)).alloc (.cells #[.bool v8Zero.alone, .bool v8Zero.start, .int .i64 v8Zero.part, .bool v8Zero.hasPic, .bool v8Zero.wide, .int .i64 v8Zero.pic, .bool v8Zero.hasLevel, .int .i64 v8Zero.level, .bool v8Zero.hasTid, .bool v8Zero.hasKey, .int .i64 v8Zero.tid, .bool v8Zero.sync, .int .i64 v8Zero.key] 45)) := (Ext.put13 hE (Nat.le_of_eq hr)).alloc _
    clear y0 y1 y2 y3 y4 y5 yf z0 z1 z2 z3 z4 z5 z6 z7 z8 z9 z10 z11 z12 zf
    generalize hgw : (((((((((((((w1.setCell ⟨r, 0, none⟩ (.bool false)).setCell ⟨r, 1, none⟩ (.bool false)).setCell ⟨r, 2, none⟩ (.int .i64 0)).setCell ⟨r, 3, none⟩ (.bool false)).setCell ⟨r, 4, none⟩ (.bool false)).setCell ⟨r, 5, none⟩ (.int .i64 0)).setCell ⟨r, 6, none⟩ (.bool false)).setCell ⟨r, 7, none⟩ (.int .i64 0)).setCell ⟨r, 8, none⟩ (.bool false)).setCell ⟨r, 9, none⟩ (.bool false)).setCell ⟨r, 10, none⟩ (.int .i64 0)).setCell ⟨r, 11, none⟩ (.bool false)).setCell ⟨r, 12, none⟩ (.int .i64 0)).alloc (.cells #[.bool v8Zero.alone, .bool v8Zero.start, .int .i64 v8Zero.part, .bool v8Zero.hasPic, .bool v8Zero.wide, .int .i64 v8Zero.pic, .bool v8Zero.hasLevel, .int .i64 v8Zero.level, .bool v8Zero.hasTid, .bool v8Zero.hasKey, .int .i64 v8Zero.tid, .bool v8Zero.sync, .int .i64 v8Zero.key] 45) = wf at *
    clear hgw
    obtain ⟨⟨z0, z1, z2, z3, z4, z5, z6, z7, z8, z9, z10, z11, z12⟩, zf, _⟩ := hrf.thirteen
    exact bodyPost_ret (v := .tuple #[.agg #[.bool false, .bool false, .int .i64 0, .bool false, .bool false, .int .i64 0, .bool false, .int .i64 0, .bool false, .bool false, .int .i64 0, .bool false, .int .i64 0], .int .i64 0, .int .i64 E]) (by simp [results, Try.results21, go_sem, z0, z1, z2, z3, z4, z5, z6, z7, z8, z9, z10, z11, z12]) rfl ⟨rfl, hEf⟩
end Go.Proofs.Ytcdacnhggpfnaaa

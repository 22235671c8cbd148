/- vp8.Set of a descriptor that is read: the walk. -/
import Derived.Test.YtcdacnhggpfnaaaVp8G
import Derived.Deep.DeepCutAuto
import Derived.BigRegion
namespace Go.Proofs.Ytcdacnhggpfnaaa
open Go.RowKit
set_option maxRecDepth 100000 in
set_option maxHeartbeats 8000000 in
theorem v8set_ok (A : Option Addr) (n c : Nat) (b : List UInt8) (pic lev key : Int) (w : World) (hb : Bytes w A n c b) (hn : n ≤ 1000000) (h0 : vrE b = 0) (x : List UInt8) (hx : vsL b pic lev key = x) (E : Int) (hE : vsE b pic lev key = E) (N : Nat) (hN : x.length = N) :
    Calls Try.prog 23 #[.slice A n c, .int .i64 pic, .int .i64 lev, .int .i64 key] w fun e w' => ∃ A' c', e = .returned (.tuple #[.slice A' N c', .int .i64 E]) ∧ Bytes w' A' N c' x ∧ Ext w w' := by
  obtain ⟨pl1, pl2, pl3⟩ := vr_places h0
  have hlen := hb.len
  rw [hlen] at pl1 pl2 pl3
  have hVE : vsE b pic lev key = if out_ (vrD b).hasPic pic (v8W (vrD b)) ∨ out_ (vrD b).hasLevel lev 255 ∨ out_ (vrD b).hasKey key 31 then 6 else 0 := by
    unfold vsE; rw [if_neg (by rw [h0]; decide)]
  have hVL : vsE b pic lev key = 0 → vsL b pic lev key = vs3 (vs2 (vs1 b (vrS b) (vrD b) pic) (vrS b) (vrD b) lev) (vrS b) (vrD b) key := fun h => by unfold vsL; rw [if_pos h]
  have hVF : vsE b pic lev key ≠ 0 → vsL b pic lev key = [] := vsL_fail
  rw [hE] at hVE hVL hVF
  rw [hx] at hVL hVF
  have hdd : vrD b = vrD0 b := by unfold vrD rdV; rw [if_pos (show rdE (vrS b) (vrD0 b) = 0 from h0)]
  have h0' := h0
  unfold vrE at h0'
  rw [← hdd] at h0'
  obtain ⟨s5, hs5⟩ : ∃ x, vrS b = x := ⟨_, rfl⟩
  obtain ⟨d, hd⟩ : ∃ x, vrD b = x := ⟨_, rfl⟩
  have S := hide (fun W g hE h0 hg => rdread_any g A n c b rs0 w W hb hE h0 hg hn (by decide) s5 d (Prod.ext hs5 (by rw [← hd, hdd]; rfl)))
  rw [hs5, hd] at h0'
  have hrv : rdV s5 d = d := by unfold rdV; rw [if_pos h0']
  rw [h0', hrv] at S
  rw [hs5, hd] at hVL
  rw [hd] at hVE
  rw [hs5, hd] at pl1 pl2 pl3
  have SW := hide (fun W => widest_any d W)
  obtain ⟨Wd, hWd⟩ : ∃ W, v8W d = W := ⟨_, rfl⟩
  rw [hWd] at hVE
  have hwd2 : Wd = if d.wide = true then 32767 else 127 := by rw [← hWd]; rfl
  obtain ⟨p1, hp1⟩ : ∃ p, decide (d.hasPic = true ∧ pic ≠ -1) = p := ⟨_, rfl⟩
  obtain ⟨p2, hp2⟩ : ∃ p, decide (d.hasLevel = true ∧ lev ≠ -1) = p := ⟨_, rfl⟩
  obtain ⟨p3, hp3⟩ : ∃ p, decide (d.hasKey = true ∧ key ≠ -1) = p := ⟨_, rfl⟩
  have SW2 := hide (fun W => widest_any ⟨d.alone, d.start, d.part, p1, d.wide, d.pic, p2, d.level, d.hasTid, p3, d.tid, d.sync, d.key⟩ W)
  rw [show v8W ⟨d.alone, d.start, d.part, p1, d.wide, d.pic, p2, d.level, d.hasTid, p3, d.tid, d.sync, d.key⟩ = Wd from hWd] at SW2
  dsimp only at SW2
  have HP := hide (And.intro hp1 (And.intro hp2 hp3))
  have HV := hide (And.intro hVE (And.intro hVL hVF))
  have HPL := hide (And.intro pl1 (And.intro pl2 pl3))
  have HN := hide hN
  have HW := hide hwd2
  have hdd2 : ∀ (a q : Bool) (m : Int), decide (a = true ∧ m ≠ -1) = q → q = true → a = true ∧ m ≠ -1 := fun a q m h1 h2 => of_decide_eq_true (h1.trans h2)
  have HD2 := hide hdd2
  clear hp1 hp2 hp3 hVE hVL hVF pl1 pl2 pl3 hN hwd2 hdd hd hs5 h0 h0' hE hx hrv hWd hdd2 SW
  go_enter Try.func23, Try.ntmps23
  go_wp2_with fail
  have hg0 := Blk.new w 105 #[.slice A n c, .int .i64 0, .bool false, .int .i64 0, .int .i64 0, .int .i64 0]
  refine (S.out _ w.heap.size ((Ext.refl w).alloc _) (Nat.le_refl _) hg0).mono ?_
  rintro e w1 ⟨rfl, hg1, hC⟩
  have hE := hC.ext w (fun x e => by omega) ((Ext.refl w).alloc (.cells #[.slice A n c, .int .i64 0, .bool false, .int .i64 0, .int .i64 0, .int .i64 0] 105))
  clear hC hg0 S
  go_upto_region 5 with fail
  have hd0 := Blk.new w1 45 #[.bool d.alone, .bool d.start, .int .i64 d.part, .bool d.hasPic, .bool d.wide, .int .i64 d.pic, .bool d.hasLevel, .int .i64 d.level, .bool d.hasTid, .bool d.hasKey, .int .i64 d.tid, .bool d.sync, .int .i64 d.key]
  have hlt := hg1.lt
  replace hg1 := hg1.alloc (.cells #[.bool d.alone, .bool d.start, .int .i64 d.part, .bool d.hasPic, .bool d.wide, .int .i64 d.pic, .bool d.hasLevel, .int .i64 d.level, .bool d.hasTid, .bool d.hasKey, .int .i64 d.tid, .bool d.sync, .int .i64 d.key] 45)
  replace hE := hE.alloc (.cells #[.bool d.alone, .bool d.start, .int .i64 d.part, .bool d.hasPic, .bool d.wide, .int .i64 d.pic, .bool d.hasLevel, .int .i64 d.level, .bool d.hasTid, .bool d.hasKey, .int .i64 d.tid, .bool d.sync, .int .i64 d.key] 45)
  obtain ⟨gr, hgr⟩ : ∃ q, w.heap.size = q := ⟨_, rfl⟩
  obtain ⟨gd, hgd⟩ : ∃ q, w1.heap.size = q := ⟨_, rfl⟩
  rw [hgr] at hg1 hlt ⊢
  rw [hgd] at hd0 hlt ⊢
  have hwd : w.heap.size ≤ gd := by omega
  have hwr : w.heap.size ≤ gr := by omega
  have hne : gr ≠ gd := by omega
  generalize hgw : w1.alloc (.cells #[.bool d.alone, .bool d.start, .int .i64 d.part, .bool d.hasPic, .bool d.wide, .int .i64 d.pic, .bool d.hasLevel, .int .i64 d.level, .bool d.hasTid, .bool d.hasKey, .int .i64 d.tid, .bool d.sync, .int .i64 d.key] 45) = w2 at *
  clear hgw hgr hgd hlt
  go_cut [] (fun wx => Blk wx gr 105 #[.slice A n c, .int .i64 (s5.at_ : Int), .bool s5.short, .int .i64 s5.p, .int .i64 s5.l, .int .i64 s5.k] ∧ Blk wx gd 45 #[.bool d.alone, .bool d.start, .int .i64 d.part, .bool p1, .bool d.wide, .int .i64 d.pic, .bool p2, .int .i64 d.level, .bool d.hasTid, .bool p3, .int .i64 d.tid, .bool d.sync, .int .i64 d.key] ∧ Ext w wx)
  case first => as_aux_lemma =>
    obtain ⟨da, ds, dp, dhp, dwi, dpc, dhl, dlv, dht, dhk, dti, dsy, dky⟩ := d
    dsimp only at *
    clear HV HPL HN HW SW2 HD2
    obtain ⟨⟨x0, x1, x2, x3, x4, x5, x6, x7, x8, x9, x10, x11, x12⟩, xf, _⟩ := hd0.thirteen
    have F := hide (fun (v1 v2 v3 : Bool) => (show Blk (((w2.setCell ⟨gd, 3, none⟩ (.bool v1)).setCell ⟨gd, 6, none⟩ (.bool v2)).setCell ⟨gd, 9, none⟩ (.bool v3)) gr 105 #[.slice A n c, .int .i64 (s5.at_ : Int), .bool s5.short, .int .i64 s5.p, .int .i64 s5.l, .int .i64 s5.k] ∧ Blk (((w2.setCell ⟨gd, 3, none⟩ (.bool v1)).setCell ⟨gd, 6, none⟩ (.bool v2)).setCell ⟨gd, 9, none⟩ (.bool v3)) gd 45 #[.bool da, .bool ds, .int .i64 dp, .bool v1, .bool dwi, .int .i64 dpc, .bool v2, .int .i64 dlv, .bool dht, .bool v3, .int .i64 dti, .bool dsy, .int .i64 dky] ∧ Ext w (((w2.setCell ⟨gd, 3, none⟩ (.bool v1)).setCell ⟨gd, 6, none⟩ (.bool v2)).setCell ⟨gd, 9, none⟩ (.bool v3)) from by
      have hdf := ((hd0.set_ 3 (.bool v1)).set_ 6 (.bool v2)).set_ 9 (.bool v3)
      simp only [List.setIfInBounds_toArray, List.set_cons_zero, List.set_cons_succ] at hdf
      exact ⟨((hg1.far (p := ⟨gd, 3, none⟩) hne _).far (p := ⟨gd, 6, none⟩) hne _).far (p := ⟨gd, 9, none⟩) hne _, hdf, ((hE.setCell (p := ⟨gd, 3, none⟩) hwd _).setCell (p := ⟨gd, 6, none⟩) hwd _).setCell (p := ⟨gd, 9, none⟩) hwd _⟩))
    clear hd0 hg1 hE
    have c1 : (dhp = false ∧ p1 = false) ∨ (dhp = true ∧ pic = -1 ∧ p1 = false) ∨ (dhp = true ∧ (pic != -1) = true ∧ p1 = true) := by
      have h := HP.out.1
      cases dhp
      · exact .inl ⟨rfl, by rw [← h]; simp⟩
      · by_cases hq : pic = -1
        · exact .inr (.inl ⟨rfl, hq, by rw [← h]; simp [hq]⟩)
        · exact .inr (.inr ⟨rfl, by rw [bne_iff_ne]; exact hq, by rw [← h]; simp [hq]⟩)
    have c2 : (dhl = false ∧ p2 = false) ∨ (dhl = true ∧ lev = -1 ∧ p2 = false) ∨ (dhl = true ∧ (lev != -1) = true ∧ p2 = true) := by
      have h := HP.out.2.1
      cases dhl
      · exact .inl ⟨rfl, by rw [← h]; simp⟩
      · by_cases hq : lev = -1
        · exact .inr (.inl ⟨rfl, hq, by rw [← h]; simp [hq]⟩)
        · exact .inr (.inr ⟨rfl, by rw [bne_iff_ne]; exact hq, by rw [← h]; simp [hq]⟩)
    have c3 : (dhk = false ∧ p3 = false) ∨ (dhk = true ∧ key = -1 ∧ p3 = false) ∨ (dhk = true ∧ (key != -1) = true ∧ p3 = true) := by
      have h := HP.out.2.2
      cases dhk
      · exact .inl ⟨rfl, by rw [← h]; simp⟩
      · by_cases hq : key = -1
        · exact .inr (.inl ⟨rfl, hq, by rw [← h]; simp [hq]⟩)
        · exact .inr (.inr ⟨rfl, by rw [bne_iff_ne]; exact hq, by rw [← h]; simp [hq]⟩)
    clear HP
    rcases c1 with ⟨rfl, rfl⟩ | ⟨rfl, rfl, rfl⟩ | ⟨rfl, k1, rfl⟩
    all_goals
      rcases c2 with ⟨rfl, rfl⟩ | ⟨rfl, rfl, rfl⟩ | ⟨rfl, k2, rfl⟩
      all_goals
        rcases c3 with ⟨rfl, rfl⟩ | ⟨rfl, rfl, rfl⟩ | ⟨rfl, k3, rfl⟩
        all_goals
          go_wp2_with fail
          go_meet
          exact F.out _ _ _
  case rest =>
    obtain ⟨hg2, hd2, hE2⟩ := hcut
    clear hd0 hg1 hE
    obtain ⟨bad, hbad⟩ : ∃ q, decide ((p1 = true ∧ (pic < 0 ∨ Wd < pic)) ∨ (p2 = true ∧ (lev < 0 ∨ 255 < lev)) ∨ (p3 = true ∧ (key < 0 ∨ 31 < key))) = q := ⟨_, rfl⟩
    have HB := hide hbad
    clear hbad
    go_upto_region 6 with fail
    go_cut [81] (fun v wx => v = .bool bad ∧ Blk wx gr 105 #[.slice A n c, .int .i64 (s5.at_ : Int), .bool s5.short, .int .i64 s5.p, .int .i64 s5.l, .int .i64 s5.k] ∧ Blk wx gd 45 #[.bool d.alone, .bool d.start, .int .i64 d.part, .bool p1, .bool d.wide, .int .i64 d.pic, .bool p2, .int .i64 d.level, .bool d.hasTid, .bool p3, .int .i64 d.tid, .bool d.sync, .int .i64 d.key] ∧ Ext w wx)
    case first => as_aux_lemma =>
      clear HV HPL HN HW HD2 HP
      obtain ⟨⟨x0, x1, x2, x3, x4, x5, x6, x7, x8, x9, x10, x11, x12⟩, xf, _⟩ := hd2.thirteen
      cases p1
      · cases p2
        all_goals
          cases p3
          all_goals
            go_wp2_with fail; all_goals (go_meet; exact ⟨congrArg Value.bool (by rw [← HB.out, Bool.eq_iff_iff]; first | (simp; done) | (simp; omega) | (simp [*]; done) | (simp [*]; omega)), hg2, hd2, hE2⟩)
      · by_cases k1 : pic < 0
        · go_wp2_with fail; all_goals (go_meet; exact ⟨congrArg Value.bool (by rw [← HB.out, Bool.eq_iff_iff]; first | (simp; done) | (simp; omega) | (simp [*]; done) | (simp [*]; omega)), hg2, hd2, hE2⟩)
        · cases p2
          all_goals
            cases p3
            all_goals
              go_wp2_with fail; refine (SW2.out _).mono ?_; rintro e w3 ⟨rfl, hE3⟩; clear x0 x1 x2 x3 x4 x5 x6 x7 x8 x9 x10 x11 x12 xf; replace hg2 := hg2.below hE3 hg2.lt; replace hd2 := hd2.below hE3 hd2.lt; replace hE2 := hE2.trans hE3; obtain ⟨⟨x0, x1, x2, x3, x4, x5, x6, x7, x8, x9, x10, x11, x12⟩, xf, _⟩ := hd2.thirteen; go_wp2_with fail; all_goals (go_meet; exact ⟨congrArg Value.bool (by rw [← HB.out, Bool.eq_iff_iff]; first | (simp; done) | (simp; omega) | (simp [*]; done) | (simp [*]; omega)), hg2, hd2, hE2⟩)
    case rest =>
      obtain ⟨rfl, hg3, hd3, hE3⟩ := hcut
      clear hg2 hd2 hE2 SW2
      cases bad
      case true => as_aux_lemma =>
        have h1 := of_decide_eq_true HB.out
        obtain ⟨q1, q2, q3⟩ := HP.out
        obtain ⟨v1, v2, v3⟩ := HV.out
        have hE6 : E = 6 := by
          rw [v1, if_pos]
          unfold out_
          rcases h1 with ⟨k, r⟩ | ⟨k, r⟩ | ⟨k, r⟩
          · have := HD2.out _ _ _ q1 k
            exact .inl ⟨this.1, this.2, r⟩
          · have := HD2.out _ _ _ q2 k
            exact .inr (.inl ⟨this.1, this.2, r⟩)
          · have := HD2.out _ _ _ q3 k
            exact .inr (.inr ⟨this.1, this.2, r⟩)
        have hx0 : x = [] := v3 (by rw [hE6]; decide)
        subst hE6 hx0
        obtain rfl : 0 = N := HN.out
        clear HV HPL HN HW HD2 HP h1 q1 q2 q3 v1 v2 v3
        go_wp2_with fail
        go_ret2
        exact ⟨none, 0, rfl, Bytes.nil _, hE3⟩
      case false =>
        have h1' := of_decide_eq_false HB.out
        have h1 : (p1 = true → 0 ≤ pic ∧ pic ≤ Wd) ∧ (p2 = true → 0 ≤ lev ∧ lev ≤ 255) ∧ (p3 = true → 0 ≤ key ∧ key ≤ 31) :=
          ⟨fun h => by have t : ¬ (pic < 0 ∨ Wd < pic) := fun z => h1' (.inl ⟨h, z⟩); omega, fun h => by have t : ¬ (lev < 0 ∨ 255 < lev) := fun z => h1' (.inr (.inl ⟨h, z⟩)); omega, fun h => by have t : ¬ (key < 0 ∨ 31 < key) := fun z => h1' (.inr (.inr ⟨h, z⟩)); omega⟩
        obtain ⟨v1, v2, v3⟩ := HV.out
        obtain ⟨q1, q2, q3⟩ := HP.out
        have hE0 : E = 0 := by
          rw [v1, if_neg]
          unfold out_
          rintro (⟨r1, r2, r3⟩ | ⟨r1, r2, r3⟩ | ⟨r1, r2, r3⟩)
          · have := h1.1 (by rw [← q1]; exact decide_eq_true ⟨r1, r2⟩); omega
          · have := h1.2.1 (by rw [← q2]; exact decide_eq_true ⟨r1, r2⟩); omega
          · have := h1.2.2 (by rw [← q3]; exact decide_eq_true ⟨r1, r2⟩); omega
        have hx1 := v2 hE0
        subst hE0
        have HX := hide hx1
        have H1 := hide h1
        clear HB HV h1 h1' v1 v2 v3 q1 q2 q3 hx1
        go_wp2_with fail
        refine (clone_any A n c b wc (hb.ext hE3) (by omega)).mono ?_
        rintro e w4 ⟨A4, c4, rfl, hO, hE4⟩
        have hgr4 := hg3.lt
        have hgd4 := hd3.lt
        obtain ⟨B4, hB4⟩ : ∃ B, wc.heap.size = B := ⟨_, rfl⟩
        rw [hB4] at hO hgr4 hgd4
        have hwB : w.heap.size ≤ B4 := by omega
        clear hB4
        replace hg3 := hg3.below hE4 hg3.lt
        replace hd3 := hd3.below hE4 hd3.lt
        replace hE3 := hE3.trans hE4
        clear hE4
        go_upto_region 9 with fail
        go_cut [89] (fun v wx => v = .bool (p1 && d.wide) ∧ wx = w4)
        case first =>
          obtain ⟨⟨x0, x1, x2, x3, x4, x5, x6, x7, x8, x9, x10, x11, x12⟩, xf, _⟩ := hd3.thirteen
          cases p1
          all_goals
            go_wp2_with fail
            go_meet
            exact ⟨by simp, rfl⟩
        case rest =>
          obtain ⟨rfl, rfl⟩ := hcut
          obtain ⟨x1, hx1⟩ : ∃ x, vs1 b s5 d pic = x := ⟨_, rfl⟩
          have HX1 := hide hx1
          obtain ⟨z, hz⟩ : ∃ z, (p1 && d.wide) = z := ⟨_, rfl⟩
          rw [hz]
          have HZ := hide hz
          clear hx1 hz
          go_upto_if 89 with (fail)
          go_cut [] (fun wx => wx.ownsRow B4 5 1 (.slice A4 n c4) n (x1.map Bv) ∧ Blk wx gr 105 #[.slice A n c, .int .i64 (s5.at_ : Int), .bool s5.short, .int .i64 s5.p, .int .i64 s5.l, .int .i64 s5.k] ∧ Blk wx gd 45 #[.bool d.alone, .bool d.start, .int .i64 d.part, .bool p1, .bool d.wide, .int .i64 d.pic, .bool p2, .int .i64 d.level, .bool d.hasTid, .bool p3, .int .i64 d.tid, .bool d.sync, .int .i64 d.key] ∧ Ext w wx)
          case first => as_aux_lemma =>
            obtain ⟨q1, -, -⟩ := HP.out
            obtain ⟨hq1, -, -⟩ := HPL.out
            have hw := HW.out
            have h1 := H1.out.1
            have hx1 := HX1.out
            clear HP HPL HW H1 HX1 HX HN HD2
            unfold vs1 at hx1
            obtain ⟨da, ds, dp, dhp, dwi, dpc, dhl, dlv, dht, dhk, dti, dsy, dky⟩ := d
            dsimp only at *
            obtain ⟨⟨u0, u1, u2, u3, u4, u5, u6, u7, u8, u9, u10, u11, u12⟩, uf, _⟩ := hd3.thirteen
            cases p1
            · obtain rfl : false = z := HZ.out
              have hnot := of_decide_eq_false q1
              rw [if_neg hnot] at hx1
              subst hx1
              clear q1 hnot hq1 hw h1 HZ
              go_wp2_with fail
              go_meet
              exact ⟨hO, hg3, hd3, hE3⟩
            · have hc := of_decide_eq_true q1
              have hr := h1 rfl
              obtain ⟨hp2, hp4⟩ := hq1 hc.1
              rw [if_pos hc] at hx1
              obtain ⟨k, rfl⟩ := Int.eq_ofNat_of_zero_le hr.1
              rw [hp2, Int.toNat_natCast, Int.toNat_natCast] at hx1
              have hg5 := hg3
              rw [hp2] at hg5
              obtain ⟨⟨y0, y1, y2, y3, y4, y5⟩, yf, _⟩ := hg5.sixR
              have hbv : Bv (UInt8.ofNat k) = .int .u8 ((k : Int) % 256) := by simp [Bv]
              obtain rfl : dhp = true := hc.1
              cases dwi
              · obtain rfl : false = z := HZ.out
                simp only [Bool.false_eq_true, if_false] at hw hx1 hp4
                have hin : (2 : Int) < (n : Int) := by omega
                obtain ⟨g4, rfl, hb4, hl4, hu4, hf4, hO5⟩ := own_setV 2 (by omega) (UInt8.ofNat k) hO
                rw [hx1] at hO5
                have hg6 := hg3.far (p := ⟨g4, 2, none⟩) (by show gr ≠ g4; omega) (Bv (UInt8.ofNat k))
                have hd6 := hd3.far (p := ⟨g4, 2, none⟩) (by show gd ≠ g4; omega) (Bv (UInt8.ofNat k))
                have hE6 := hE3.setCell (p := ⟨g4, 2, none⟩) (by show w.heap.size ≤ g4; omega) (Bv (UInt8.ofNat k))
                have F := And.intro hO5 (And.intro hg6 (And.intro hd6 hE6))
                rw [hbv] at F
                replace F := hide F
                clear q1 hc hq1 hw h1 hr hp2 hp4 hx1 hg5 hO hO5 hg6 hd6 hE6 hg3 hd3 hE3 HZ hbv
                go_wp2_with fail
                go_meet
                exact F.out
              · obtain rfl : true = z := HZ.out
                simp only [if_true] at hw hx1 hp4
                have hin : (2 : Int) < (n : Int) := by omega
                have hin3 : (3 : Int) < (n : Int) := by omega
                obtain ⟨g4, rfl, hb4, hl4, hu4, hf4, hO5⟩ := own_setV 2 (by omega) (UInt8.ofNat ((32768 + k) / 256)) hO
                obtain ⟨g6, e6, _, _, hu5, hf5, _⟩ := own_setV 3 (by omega) 0 hO
                obtain rfl : g4 = g6 := by injection e6 with e; injection e
                obtain ⟨g5, e5, _, _, _, _, hO6⟩ := own_setV 3 (by omega) (UInt8.ofNat k) hO5
                obtain rfl : g4 = g5 := by injection e5 with e; injection e
                rw [show ((b.set 2 (UInt8.ofNat ((32768 + k) / 256))).set 3 (UInt8.ofNat k)) = x1 from hx1] at hO6
                have hg6 := (hg3.far (p := ⟨g4, 2, none⟩) (by show gr ≠ g4; omega) (Bv (UInt8.ofNat ((32768 + k) / 256)))).far (p := ⟨g4, 3, none⟩) (by show gr ≠ g4; omega) (Bv (UInt8.ofNat k))
                have hd6 := (hd3.far (p := ⟨g4, 2, none⟩) (by show gd ≠ g4; omega) (Bv (UInt8.ofNat ((32768 + k) / 256)))).far (p := ⟨g4, 3, none⟩) (by show gd ≠ g4; omega) (Bv (UInt8.ofNat k))
                have hE6 := (hE3.setCell (p := ⟨g4, 2, none⟩) (by show w.heap.size ≤ g4; omega) (Bv (UInt8.ofNat ((32768 + k) / 256)))).setCell (p := ⟨g4, 3, none⟩) (by show w.heap.size ≤ g4; omega) (Bv (UInt8.ofNat k))
                have hbw : Bv (UInt8.ofNat ((32768 + k) / 256)) = .int .u8 ((32768 + (k : Int)) / 256 % 256) := by
                  unfold Bv
                  rw [UInt8.toNat_ofNat']
                  congr 1
                have F := And.intro hO6 (And.intro hg6 (And.intro hd6 hE6))
                rw [hbv, hbw] at F
                replace F := hide F
                have hor : bits .or .i64 32768 (k : Int) = 32768 + (k : Int) := by
                  have h := Nat.two_pow_add_eq_or_of_lt (i := 15) (b := k) (by omega) 1
                  have e := i64_or_natV 32768 k (by omega) (by omega)
                  rw [show (32768 ||| k) = 32768 + k from by rw [show (32768 : Nat) = 2 ^ 15 * 1 from rfl, ← h]] at e
                  exact e
                clear q1 hc hq1 hw h1 hr hp2 hp4 hx1 hg5 hO hO5 hO6 hg6 hd6 hE6 hg3 hd3 hE3 e5 e6 HZ hbv hbw
                go_upto_region 10 with fail
                go_region
                go_wp2_with fail
                go_meet
                obtain ⟨f1, f2, f3, f4⟩ := F.out
                exact ⟨f1, f2.drew, f3.drew, f4.drew⟩
          case rest =>
            obtain ⟨hO5, hg5, hd5, hE5⟩ := hcut
            clear hO hg3 hd3 hE3 HZ
            obtain ⟨x2, hx2⟩ : ∃ x, vs2 x1 s5 d lev = x := ⟨_, rfl⟩
            have hxl : x1.length = n := by have := (Bytes.own hO5).len; omega
            have HX2 := hide hx2
            clear hx2 hxl
            obtain ⟨⟨u0, u1, u2, u3, u4, u5, u6, u7, u8, u9, u10, u11, u12⟩, uf, _⟩ := hd5.thirteen
            go_upto_if 120 with (fail)
            clear u0 u1 u2 u3 u4 u5 u6 u7 u8 u9 u10 u11 u12 uf
            go_cut [] (fun wx => wx.ownsRow B4 5 1 (.slice A4 n c4) n (x2.map Bv) ∧ Blk wx gr 105 #[.slice A n c, .int .i64 (s5.at_ : Int), .bool s5.short, .int .i64 s5.p, .int .i64 s5.l, .int .i64 s5.k] ∧ Blk wx gd 45 #[.bool d.alone, .bool d.start, .int .i64 d.part, .bool p1, .bool d.wide, .int .i64 d.pic, .bool p2, .int .i64 d.level, .bool d.hasTid, .bool p3, .int .i64 d.tid, .bool d.sync, .int .i64 d.key] ∧ Ext w wx)
            case first => as_aux_lemma =>
              obtain ⟨-, q2, -⟩ := HP.out
              obtain ⟨-, hq2, -⟩ := HPL.out
              have h2 := H1.out.2.1
              have hx2 := HX2.out
              clear HP HPL HW H1 HX2 HX HN HD2
              unfold vs2 at hx2
              cases p2
              · have hnot := of_decide_eq_false q2
                rw [if_neg hnot] at hx2
                subst hx2
                clear q2 hnot hq2 h2
                go_wp2_with fail
                go_meet
                exact ⟨hO5, hg5, hd5, hE5⟩
              · have hc := of_decide_eq_true q2
                have hr := h2 rfl
                obtain ⟨L, hL, hLn⟩ := hq2 hc.1
                rw [if_pos hc] at hx2
                obtain ⟨k, rfl⟩ := Int.eq_ofNat_of_zero_le hr.1
                rw [hL, Int.toNat_natCast, Int.toNat_natCast] at hx2
                have hg7 := hg5
                rw [hL] at hg7
                obtain ⟨⟨y0, y1, y2, y3, y4, y5⟩, yf, _⟩ := hg7.sixR
                have hbv : Bv (UInt8.ofNat k) = .int .u8 ((k : Int) % 256) := by simp [Bv]
                have hin : (L : Int) < (n : Int) := by omega
                obtain ⟨g4, rfl, hb4, hl4, hu4, hf4, hO6⟩ := own_setV L hLn (UInt8.ofNat k) hO5
                rw [hx2] at hO6
                have hg6 := hg5.far (p := ⟨g4, L, none⟩) (by show gr ≠ g4; omega) (Bv (UInt8.ofNat k))
                have hd6 := hd5.far (p := ⟨g4, L, none⟩) (by show gd ≠ g4; omega) (Bv (UInt8.ofNat k))
                have hE6 := hE5.setCell (p := ⟨g4, L, none⟩) (by show w.heap.size ≤ g4; omega) (Bv (UInt8.ofNat k))
                have F := And.intro hO6 (And.intro hg6 (And.intro hd6 hE6))
                rw [hbv] at F
                replace F := hide F
                clear q2 hc hq2 h2 hr hL hx2 hg7 hO5 hO6 hg6 hd6 hE6 hg5 hd5 hE5 hbv
                go_wp2_with fail
                go_meet
                exact F.out
            case rest =>
              obtain ⟨hO7, hg7, hd7, hE7⟩ := hcut
              clear hO5 hg5 hd5 hE5
              have hx3 : vs3 x2 s5 d key = x := by
                have h := HX.out
                rw [HX1.out, HX2.out] at h
                exact h.symm
              have HX3 := hide hx3
              clear hx3 HX HX1 HX2
              have hlen7 := (Bytes.own hO7).len
              obtain rfl : n = N := by
                have h := HN.out
                rw [← h, ← HX3.out]
                unfold vs3
                split
                · rw [List.length_set, hlen7]
                · exact hlen7.symm
              clear HN hlen7
              obtain ⟨⟨u0, u1, u2, u3, u4, u5, u6, u7, u8, u9, u10, u11, u12⟩, uf, _⟩ := hd7.thirteen
              go_upto_if 130 with (fail)
              clear u0 u1 u2 u3 u4 u5 u6 u7 u8 u9 u10 u11 u12 uf
              go_cut [] (fun wx => wx.ownsRow B4 5 1 (.slice A4 n c4) n (x.map Bv) ∧ Ext w wx)
              case first => as_aux_lemma =>
                obtain ⟨-, -, q3⟩ := HP.out
                obtain ⟨-, -, hq3⟩ := HPL.out
                have h3 := H1.out.2.2
                have hx3 := HX3.out
                clear HP HPL HW H1 HX3 HD2
                unfold vs3 at hx3
                cases p3
                · have hnot := of_decide_eq_false q3
                  rw [if_neg hnot] at hx3
                  subst hx3
                  clear q3 hnot hq3 h3
                  go_wp2_with fail
                  go_meet
                  exact ⟨hO7, hE7⟩
                · have hc := of_decide_eq_true q3
                  have hr := h3 rfl
                  obtain ⟨L, hL, hLn⟩ := hq3 hc.1
                  rw [if_pos hc] at hx3
                  obtain ⟨k, rfl⟩ := Int.eq_ofNat_of_zero_le hr.1
                  rw [hL, Int.toNat_natCast, Int.toNat_natCast] at hx3
                  have hg8 := hg7
                  rw [hL] at hg8
                  obtain ⟨⟨y0, y1, y2, y3, y4, y5⟩, yf, _⟩ := hg8.sixR
                  have hin : (L : Int) < (n : Int) := by omega
                  obtain ⟨ch, hch⟩ : ∃ ch, x2.getD L 0 = ch := ⟨_, rfl⟩
                  rw [hch] at hx3
                  have hkk := or_keyS ch k (by omega)
                  have hmod : (k : Int) % 256 = (k : Int) := by omega
                  obtain ⟨a, ha⟩ : ∃ a, UInt8.ofNat (ch.toNat / 32 * 32 + k) = a := ⟨_, rfl⟩
                  rw [ha] at hkk hx3
                  obtain ⟨g4, rfl, hb4, hl4, hu4, hf4, hO6⟩ := own_setV L hLn a hO7
                  rw [hx3] at hO6
                  rw [hch] at hu4
                  have hu5 : wc.cell? ⟨g4, L, none⟩ = some (.int .u8 (ch.toNat : Int)) := hu4
                  have hE6 := hE7.setCell (p := ⟨g4, L, none⟩) (by show w.heap.size ≤ g4; omega) (Bv a)
                  have F := hide (And.intro hO6 hE6)
                  clear q3 hc hq3 h3 hr hL hx3 hg8 hO7 hO6 hE6 hg7 hd7 hE7 ha hch hu4
                  go_upto_region 16 with fail
                  go_region
                  go_wp2_with fail
                  go_meet
                  obtain ⟨f1, f2⟩ := F.out
                  exact ⟨f1, f2.drew⟩
              case rest =>
                obtain ⟨hO8, hE8⟩ := hcut
                go_wp2_with fail
                go_ret2
                exact ⟨A4, c4, rfl, Bytes.own hO8, hE8⟩
theorem v8set_any (A : Option Addr) (n c : Nat) (b : List UInt8) (pic lev key : Int) (w : World) (hb : Bytes w A n c b) (hn : n ≤ 1000000) (x : List UInt8) (hx : vsL b pic lev key = x) (E : Int) (hE : vsE b pic lev key = E) (N : Nat) (hN : x.length = N) :
    Calls Try.prog 23 #[.slice A n c, .int .i64 pic, .int .i64 lev, .int .i64 key] w fun e w' => ∃ A' c', e = .returned (.tuple #[.slice A' N c', .int .i64 E]) ∧ Bytes w' A' N c' x ∧ Ext w w' := by
  by_cases h0 : vrE b = 0
  · exact v8set_ok A n c b pic lev key w hb hn h0 x hx E hE N hN
  · have e1 : vsE b pic lev key = vrE b := by unfold vsE; rw [if_pos h0]
    have e2 : x = [] := by rw [← hx]; exact vsL_fail (by rw [e1]; exact h0)
    subst e2
    obtain rfl : 0 = N := hN
    rw [e1] at hE
    exact (v8set_no A n c b pic lev key w hb hn E hE (by rw [← hE]; exact h0)).mono fun e w' h => ⟨none, 0, h.1, Bytes.nil _, h.2⟩
end Go.Proofs.Ytcdacnhggpfnaaa

/- The document's Set of layer 23: the walk. -/
import Derived.Test.YtcdacnhggpfnaaaVp8X4
import Derived.Deep.DeepCutAuto
import Derived.RegionTactic
import Derived.BigRegion
import Derived.Test.YtcdacnhggpfnaaaAppB
namespace Go.Proofs.Ytcdacnhggpfnaaa
open Go.RowKit
theorem fd_places {b : List UInt8} (h : vrE b = 0) : fdP b = (vrS b).p ∧ fdL b = (vrS b).l ∧ ((vrD b).hasKey = true → fdK b = (vrS b).k) := by
  obtain ⟨f, g, p, l, k, z, H, hb, hc⟩ := vr_un h
  obtain ⟨e1, e2, e3, e4, e5⟩ := fd_enc H hb h
  obtain ⟨d1, d2, d3⟩ := vr_enc H hb h
  rw [e3, e4, e5, d3, e1]
  refine ⟨rfl, rfl, fun hk => ?_⟩
  have hk : (d2of f g).hasKey = true := hk
  rw [if_pos (.inr hk)]
  show _ = if (d2of f g).hasKey = true then _ else _
  rw [if_pos hk]
set_option maxRecDepth 100000 in
set_option maxHeartbeats 2000000 in
theorem rfset_no (A : Option Addr) (n c : Nat) (b : List UInt8) (pic lev key : Int) (w : World) (hb : Bytes w A n c b) (hn : n ≤ 1000000) (E : Int) (hE : vrE b = E) (h0 : E ≠ 0) :
    Calls Try.prog 24 #[.slice A n c, .int .i64 pic, .int .i64 lev, .int .i64 key] w fun e w' => e = .returned (.tuple #[.slice none 0 0, .int .i64 E]) ∧ Ext w w' := by
  have S := hide (fun W h => fnd_any A n c b W h hn)
  obtain ⟨d, hd⟩ : ∃ d, vrD b = d := ⟨_, rfl⟩
  obtain ⟨Nn, hNn⟩ : ∃ N, vrN b = N := ⟨_, rfl⟩
  obtain ⟨fp, hfp⟩ : ∃ N, fdP b = N := ⟨_, rfl⟩
  obtain ⟨fl, hfl⟩ : ∃ N, fdL b = N := ⟨_, rfl⟩
  obtain ⟨fk, hfk⟩ : ∃ N, fdK b = N := ⟨_, rfl⟩
  rw [hE, hd, hNn, hfp, hfl, hfk] at S
  have hne : (E != 0) = true := bne_iff_ne.2 h0
  clear hfp hfl hfk hE hd hNn h0
  go_enter Try.func24, Try.ntmps24
  go_wp2_with fail
  refine (S.out _ hb).mono ?_
  rintro e w1 ⟨rfl, hE⟩
  have hdx0 := Blk.new w1 53 #[.bool false, .bool false, .int .i64 0, .bool false, .bool false, .int .i64 0, .bool false, .int .i64 0, .bool false, .bool false, .int .i64 0, .bool false, .int .i64 0, .int .i64 0, .int .i64 0, .int .i64 0, .int .i64 0, .int .i64 0]
  have hdx := hdx0.row #[.bool d.alone, .bool d.start, .int .i64 d.part, .bool d.hasPic, .bool d.wide, .int .i64 d.pic, .bool d.hasLevel, .int .i64 d.level, .bool d.hasTid, .bool d.hasKey, .int .i64 d.tid, .bool d.sync, .int .i64 d.key, .int .i64 (Nn : Int), .int .i64 fp, .int .i64 fl, .int .i64 fk, .int .i64 E]
  have hE1 := (hE.alloc (.cells #[.bool false, .bool false, .int .i64 0, .bool false, .bool false, .int .i64 0, .bool false, .int .i64 0, .bool false, .bool false, .int .i64 0, .bool false, .int .i64 0, .int .i64 0, .int .i64 0, .int .i64 0, .int .i64 0, .int .i64 0] 53)).row hE.size #[.bool d.alone, .bool d.start, .int .i64 d.part, .bool d.hasPic, .bool d.wide, .int .i64 d.pic, .bool d.hasLevel, .int .i64 d.level, .bool d.hasTid, .bool d.hasKey, .int .i64 d.tid, .bool d.sync, .int .i64 d.key, .int .i64 (Nn : Int), .int .i64 fp, .int .i64 fl, .int .i64 fk, .int .i64 E]
  go_upto_region 2 with (refine wpList_store_row rfl 53 _ _ rfl w1.heap.size #[.bool d.alone, .bool d.start, .int .i64 d.part, .bool d.hasPic, .bool d.wide, .int .i64 d.pic, .bool d.hasLevel, .int .i64 d.level, .bool d.hasTid, .bool d.hasKey, .int .i64 d.tid, .bool d.sync, .int .i64 d.key, .int .i64 (Nn : Int), .int .i64 fp, .int .i64 fl, .int .i64 fk, .int .i64 E] rfl rfl 53 _ hdx0 (by kernel_rfl) rfl (by simp [Value.oneCell']) ?_)
  clear hdx0
  obtain ⟨gq, hgq⟩ : ∃ g, w1.heap.size = g := ⟨_, rfl⟩
  rw [hgq] at hdx hE1; try rw [hgq]
  generalize hgw : (w1.alloc (.cells #[.bool false, .bool false, .int .i64 0, .bool false, .bool false, .int .i64 0, .bool false, .int .i64 0, .bool false, .bool false, .int .i64 0, .bool false, .int .i64 0, .int .i64 0, .int .i64 0, .int .i64 0, .int .i64 0, .int .i64 0] 53)).setRow gq #[.bool d.alone, .bool d.start, .int .i64 d.part, .bool d.hasPic, .bool d.wide, .int .i64 d.pic, .bool d.hasLevel, .int .i64 d.level, .bool d.hasTid, .bool d.hasKey, .int .i64 d.tid, .bool d.sync, .int .i64 d.key, .int .i64 (Nn : Int), .int .i64 fp, .int .i64 fl, .int .i64 fk, .int .i64 E] = w2 at *
  clear hgw hgq
  have x17 := fun j => (hdx.drewN j).cell 17
  have x17' := hdx.cell 17
  simp at x17 x17'
  go_wp2_with fail
  go_quiet (fail)
  go_wp2_with fail
  go_ret2
  exact ⟨rfl, hE1.drewN _⟩
set_option maxRecDepth 100000 in
set_option maxHeartbeats 8000000 in
theorem rfset_ok (A : Option Addr) (n c : Nat) (b : List UInt8) (pic lev key : Int) (w : World) (hb : Bytes w A n c b) (hn : n ≤ 1000000) (h0 : vrE b = 0) (x : List UInt8) (hx : vsL b pic lev key = x) (E : Int) (hE : vsE b pic lev key = E) (N : Nat) (hN : x.length = N) :
    Calls Try.prog 24 #[.slice A n c, .int .i64 pic, .int .i64 lev, .int .i64 key] w fun e w' => ∃ A' c', e = .returned (.tuple #[.slice A' N c', .int .i64 E]) ∧ Bytes w' A' N c' x ∧ Ext w w' := by
  obtain ⟨pl1, pl2, pl3⟩ := vr_places h0
  obtain ⟨fd1, fd2, fd3⟩ := fd_places h0
  have hlen := hb.len
  rw [hlen] at pl1 pl2 pl3
  have hVE : vsE b pic lev key = if out_ (vrD b).hasPic pic (v8W (vrD b)) ∨ out_ (vrD b).hasLevel lev 255 ∨ out_ (vrD b).hasKey key 31 then 6 else 0 := by
    unfold vsE; rw [if_neg (by rw [h0]; decide)]
  have hVL : vsE b pic lev key = 0 → vsL b pic lev key = vs3 (vs2 (vs1 b (vrS b) (vrD b) pic) (vrS b) (vrD b) lev) (vrS b) (vrD b) key := fun h => by unfold vsL; rw [if_pos h]
  have hVF : vsE b pic lev key ≠ 0 → vsL b pic lev key = [] := vsL_fail
  rw [hE] at hVE hVL hVF
  rw [hx] at hVL hVF
  have S := hide (fun W h => fnd_any A n c b W h hn)
  obtain ⟨s5, hs5⟩ : ∃ x, vrS b = x := ⟨_, rfl⟩
  obtain ⟨d, hd⟩ : ∃ x, vrD b = x := ⟨_, rfl⟩
  obtain ⟨Nn, hNn⟩ : ∃ N, vrN b = N := ⟨_, rfl⟩
  obtain ⟨fp, hfp⟩ : ∃ N, fdP b = N := ⟨_, rfl⟩
  obtain ⟨fl, hfl⟩ : ∃ N, fdL b = N := ⟨_, rfl⟩
  obtain ⟨fk, hfk⟩ : ∃ N, fdK b = N := ⟨_, rfl⟩
  rw [h0, hd, hNn, hfp, hfl, hfk] at S
  rw [hs5, hd] at hVL pl1 pl2 pl3
  rw [hd] at hVE
  rw [hs5, hfp] at fd1
  rw [hs5, hfl] at fd2
  rw [hs5, hfk, hd] at fd3
  obtain ⟨Wd, hWd⟩ : ∃ W, v8W d = W := ⟨_, rfl⟩
  rw [hWd] at hVE
  have hwd2 : Wd = if d.wide = true then 32767 else 127 := by rw [← hWd]; rfl
  have hwd0 : 0 ≤ Wd := by rw [hwd2]; split <;> omega
  have HV := hide (And.intro hVE (And.intro hVL hVF))
  have HPL := hide (And.intro pl1 (And.intro pl2 pl3))
  have HFD := hide (And.intro fd1 (And.intro fd2 fd3))
  have HN := hide hN
  have HW := hide hwd2
  clear hVE hVL hVF pl1 pl2 pl3 hN hwd2 hd hs5 h0 hE hx hWd hNn hfp hfl hfk fd1 fd2 fd3
  go_enter Try.func24, Try.ntmps24
  go_wp2_with fail
  refine (S.out _ hb).mono ?_
  rintro e w1 ⟨rfl, hE⟩
  have hsz := hE.size
  have hdx0 := Blk.new w1 53 #[.bool false, .bool false, .int .i64 0, .bool false, .bool false, .int .i64 0, .bool false, .int .i64 0, .bool false, .bool false, .int .i64 0, .bool false, .int .i64 0, .int .i64 0, .int .i64 0, .int .i64 0, .int .i64 0, .int .i64 0]
  have hdx := hdx0.row #[.bool d.alone, .bool d.start, .int .i64 d.part, .bool d.hasPic, .bool d.wide, .int .i64 d.pic, .bool d.hasLevel, .int .i64 d.level, .bool d.hasTid, .bool d.hasKey, .int .i64 d.tid, .bool d.sync, .int .i64 d.key, .int .i64 (Nn : Int), .int .i64 fp, .int .i64 fl, .int .i64 fk, .int .i64 0]
  replace hE := (hE.alloc (.cells #[.bool false, .bool false, .int .i64 0, .bool false, .bool false, .int .i64 0, .bool false, .int .i64 0, .bool false, .bool false, .int .i64 0, .bool false, .int .i64 0, .int .i64 0, .int .i64 0, .int .i64 0, .int .i64 0, .int .i64 0] 53)).row hsz #[.bool d.alone, .bool d.start, .int .i64 d.part, .bool d.hasPic, .bool d.wide, .int .i64 d.pic, .bool d.hasLevel, .int .i64 d.level, .bool d.hasTid, .bool d.hasKey, .int .i64 d.tid, .bool d.sync, .int .i64 d.key, .int .i64 (Nn : Int), .int .i64 fp, .int .i64 fl, .int .i64 fk, .int .i64 0]
  go_upto_region 2 with (refine wpList_store_row rfl 53 _ _ rfl w1.heap.size #[.bool d.alone, .bool d.start, .int .i64 d.part, .bool d.hasPic, .bool d.wide, .int .i64 d.pic, .bool d.hasLevel, .int .i64 d.level, .bool d.hasTid, .bool d.hasKey, .int .i64 d.tid, .bool d.sync, .int .i64 d.key, .int .i64 (Nn : Int), .int .i64 fp, .int .i64 fl, .int .i64 fk, .int .i64 0] rfl rfl 53 _ hdx0 (by kernel_rfl) rfl (by simp [Value.oneCell']) ?_)
  clear hdx0
  obtain ⟨gq, hgq⟩ : ∃ g, w1.heap.size = g := ⟨_, rfl⟩
  have hwq : w.heap.size ≤ gq := by rw [← hgq]; exact hsz
  rw [hgq] at hdx hE; try rw [hgq]
  generalize hgw : (w1.alloc (.cells #[.bool false, .bool false, .int .i64 0, .bool false, .bool false, .int .i64 0, .bool false, .int .i64 0, .bool false, .bool false, .int .i64 0, .bool false, .int .i64 0, .int .i64 0, .int .i64 0, .int .i64 0, .int .i64 0, .int .i64 0] 53)).setRow gq #[.bool d.alone, .bool d.start, .int .i64 d.part, .bool d.hasPic, .bool d.wide, .int .i64 d.pic, .bool d.hasLevel, .int .i64 d.level, .bool d.hasTid, .bool d.hasKey, .int .i64 d.tid, .bool d.sync, .int .i64 d.key, .int .i64 (Nn : Int), .int .i64 fp, .int .i64 fl, .int .i64 fk, .int .i64 0] = w2 at *
  clear hgw hgq S
  obtain ⟨⟨x0, x1, x2, x3, x4, x5, x6, x7, x8, x9, x10, x11, x12, x13, x14, x15, x16, x17⟩, xf, _⟩ := hdx.c18
  clear x0 x1 x2 x3 x4 x5 x6 x7 x8 x9 x10 x11 x12 x13 x14 x15 x16
  have x4 := hdx.cell 4
  simp at x4
  go_upto_if 22 with (fail)
  clear x17 x4 xf
  clear hsz
  go_cut [11] (fun v wx => v = .int .i64 Wd ∧ wx = w2)
  case first => as_aux_lemma =>
    have hw := HW.out
    obtain ⟨da, ds, dp, dhp, dwi, dpc, dhl, dlv, dht, dhk, dti, dsy, dky⟩ := d
    dsimp only at *
    clear HV HPL HFD HW HN
    cases dwi
    · obtain rfl : Wd = 127 := hw
      go_wp2_with fail
      go_meet
      exact ⟨rfl, rfl⟩
    · obtain rfl : Wd = 32767 := hw
      go_wp2_with fail
      go_meet
      exact ⟨rfl, rfl⟩
  case rest =>
    obtain ⟨rfl, rfl⟩ := hcut
    obtain ⟨bad, hbad⟩ : ∃ q, decide ((d.hasPic = true ∧ (pic < -1 ∨ Wd < pic)) ∨ (d.hasLevel = true ∧ (lev < -1 ∨ 255 < lev)) ∨ (d.hasKey = true ∧ (key < -1 ∨ 31 < key))) = q := ⟨_, rfl⟩
    have HB := hide hbad
    clear hbad
    go_upto_region 7 with fail
    go_cut [60] (fun v wx => v = .bool bad ∧ wx = wc)
    case first => as_aux_lemma =>
      obtain ⟨da, ds, dp, dhp, dwi, dpc, dhl, dlv, dht, dhk, dti, dsy, dky⟩ := d
      dsimp only at *
      clear HV HPL HFD HW HN
      obtain ⟨⟨x0, x1, x2, x3, x4, x5, x6, x7, x8, x9, x10, x11, x12, x13, x14, x15, x16, x17⟩, xf, _⟩ := hdx.c18
      clear x0 x1 x2 x4 x5 x7 x8 x10 x11 x12 x13 x14 x15 x16 x17
      cases dhp
      all_goals
        cases dhl
        all_goals
          cases dhk
          all_goals
            go_wp2_with fail
            all_goals (go_meet; exact ⟨congrArg Value.bool (by rw [← HB.out, Bool.eq_iff_iff]; first | (simp; done) | (simp; omega) | (simp [*]; done) | (simp [*]; omega)), rfl⟩)
    case rest =>
      obtain ⟨rfl, rfl⟩ := hcut
      cases bad
      case true => as_aux_lemma =>
        have h1 := of_decide_eq_true HB.out
        obtain ⟨v1, v2, v3⟩ := HV.out
        have hE6 : E = 6 := by
          rw [v1, if_pos]
          unfold out_
          rcases h1 with ⟨k, r⟩ | ⟨k, r⟩ | ⟨k, r⟩
          · exact .inl ⟨k, by omega, by omega⟩
          · exact .inr (.inl ⟨k, by omega, by omega⟩)
          · exact .inr (.inr ⟨k, by omega, by omega⟩)
        have hx0 : x = [] := v3 (by rw [hE6]; decide)
        subst hE6 hx0
        obtain rfl : 0 = N := HN.out
        clear HV HPL HFD HW HN h1 v1 v2 v3
        go_wp2_with fail
        go_ret2
        exact ⟨none, 0, rfl, Bytes.nil _, hE⟩
      case false =>
        have h1' := of_decide_eq_false HB.out
        have h1 : (d.hasPic = true → -1 ≤ pic ∧ pic ≤ Wd) ∧ (d.hasLevel = true → -1 ≤ lev ∧ lev ≤ 255) ∧ (d.hasKey = true → -1 ≤ key ∧ key ≤ 31) :=
          ⟨fun h => by have t : ¬ (pic < -1 ∨ Wd < pic) := fun z => h1' (.inl ⟨h, z⟩); omega, fun h => by have t : ¬ (lev < -1 ∨ 255 < lev) := fun z => h1' (.inr (.inl ⟨h, z⟩)); omega, fun h => by have t : ¬ (key < -1 ∨ 31 < key) := fun z => h1' (.inr (.inr ⟨h, z⟩)); omega⟩
        obtain ⟨v1, v2, v3⟩ := HV.out
        have hE0 : E = 0 := by
          rw [v1, if_neg]
          unfold out_
          rintro (⟨r1, r2, r3⟩ | ⟨r1, r2, r3⟩ | ⟨r1, r2, r3⟩)
          · have := h1.1 r1; omega
          · have := h1.2.1 r1; omega
          · have := h1.2.2 r1; omega
        have hx1 := v2 hE0
        subst hE0
        have HX := hide hx1
        have H1 := hide h1
        clear HB HV h1 h1' v1 v2 v3 hx1
        go_upto_region 10 with (at_builtin; refine wpList_appB wc _ _ rfl rfl ((Ext.refl _).alloc _) _ 0 0 _ rfl (own_empty wc) A n c b rfl ((hb.ext hE).alloc _) (by omega) ?_; intro A4 c4 w4 hO hE4; rw [Nat.zero_add, List.nil_append] at hO)
        have hgB := hdx.lt
        replace hdx := hdx.below hE4 hdx.lt
        have hwB := hE.size
        replace hE := hE.trans hE4
        obtain ⟨B4, hB4⟩ : ∃ B, wc.heap.size = B := ⟨_, rfl⟩
        rw [hB4] at hO hgB hwB
        clear hB4 hE4 hb
        obtain ⟨q1, hq1⟩ : ∃ q, (d.hasPic && decide (0 ≤ pic)) = q := ⟨_, rfl⟩
        have HQ1 := hide hq1
        obtain ⟨x1, hx1⟩ : ∃ x, vs1 b s5 d pic = x := ⟨_, rfl⟩
        have HX1 := hide hx1
        clear hq1 hx1
        go_cut [70] (fun v wx => v = .bool q1 ∧ wx = w4)
        case first => as_aux_lemma =>
          have x3 := hdx.cell 3
          simp at x3
          have hq := HQ1.out
          clear HPL HFD HW HN HX H1 HX1 HQ1
          cases hp : d.hasPic
          all_goals
            rw [hp] at x3 hq
            subst hq
            clear hp
            go_wp2_with fail
            go_meet
            exact ⟨by simp, rfl⟩
        case rest =>
          obtain ⟨rfl, rfl⟩ := hcut
          go_upto_if 70 with (fail)
          go_cut [] (fun wx => wx.ownsRow B4 5 1 (.slice A4 n c4) n (x1.map Bv) ∧ Blk wx gq 53 #[.bool d.alone, .bool d.start, .int .i64 d.part, .bool d.hasPic, .bool d.wide, .int .i64 d.pic, .bool d.hasLevel, .int .i64 d.level, .bool d.hasTid, .bool d.hasKey, .int .i64 d.tid, .bool d.sync, .int .i64 d.key, .int .i64 (Nn : Int), .int .i64 fp, .int .i64 fl, .int .i64 fk, .int .i64 0] ∧ Ext w wx)
          case first => as_aux_lemma =>
            obtain ⟨pl1, -, -⟩ := HPL.out
            have hfd := HFD.out.1
            have h1 := H1.out.1
            have hw := HW.out
            have hx1 := HX1.out
            have hq := HQ1.out
            clear HPL HFD HW HN HX H1 HX1 HQ1
            unfold vs1 at hx1
            cases q1
            · have hnot : ¬ (d.hasPic = true ∧ pic ≠ -1) := by
                rintro ⟨r1, r2⟩
                have := h1 r1
                rw [r1] at hq
                have hq : decide (0 ≤ pic) = false := hq
                have := of_decide_eq_false hq
                omega
              rw [if_neg hnot] at hx1
              subst hx1
              clear hnot hq h1 pl1 hfd hw
              go_wp2_with fail
              go_meet
              exact ⟨hO, hdx, hE⟩
            · rw [Bool.and_eq_true] at hq
              have hp := hq.1
              have h0p := of_decide_eq_true hq.2
              have hr := h1 hp
              obtain ⟨hp2, hp4⟩ := pl1 hp
              rw [if_pos ⟨hp, by omega⟩] at hx1
              obtain ⟨k, rfl⟩ := Int.eq_ofNat_of_zero_le h0p
              rw [hp2, Int.toNat_natCast, Int.toNat_natCast] at hx1
              obtain rfl : fp = 2 := by rw [hfd, hp2]; rfl
              have hbv : Bv (UInt8.ofNat k) = .int .u8 ((k : Int) % 256) := by simp [Bv]
              have x14 := hdx.cell 14
              have x4 := hdx.cell 4
              simp at x14 x4
              have hin : (2 : Int) < (n : Int) := by split at hp4 <;> omega
              obtain ⟨g4, rfl, hb4, hl4, hu4, hf4, hO5⟩ := own_setV 2 (by omega) (UInt8.ofNat k) hO
              have hd6 := hdx.far (p := ⟨g4, 2, none⟩) (by show gq ≠ g4; omega) (Bv (UInt8.ofNat k))
              have hE6 := hE.setCell (p := ⟨g4, 2, none⟩) (by show w.heap.size ≤ g4; omega) (Bv (UInt8.ofNat k))
              have hng : gq ≠ g4 := by omega
              have hng2 : g4 ≠ gq := by omega
              cases hwi : d.wide
              · rw [hwi] at hx1 x4 hw
                simp only [Bool.false_eq_true, if_false] at hx1
                rw [hx1] at hO5
                have F := And.intro hO5 (And.intro hd6 hE6)
                rw [hbv] at F
                replace F := hide F
                clear hq h1 hr hp2 hp4 hx1 hO hO5 hd6 hE6 hdx hE hbv hwi hw hp h0p pl1 hfd
                go_wp2_with fail
                go_meet
                exact F.out
              · rw [hwi] at hx1 x4 hw hp4
                simp only [if_true] at hx1 hp4 hw
                have hin3 : (3 : Int) < (n : Int) := by omega
                obtain ⟨g6, e6, _, _, hu5, hf5, _⟩ := own_setV 3 (by omega) 0 hO
                obtain rfl : g4 = g6 := by injection e6 with e; injection e
                obtain ⟨g7, e7, _, _, _, _, hO6⟩ := own_setV 2 (by omega) (UInt8.ofNat ((32768 + k) / 256)) hO5
                obtain rfl : g4 = g7 := by injection e7 with e; injection e
                obtain ⟨g8, e8, _, _, _, _, hO7⟩ := own_setV 3 (by omega) (UInt8.ofNat k) hO6
                obtain rfl : g4 = g8 := by injection e8 with e; injection e
                rw [show (((b.set 2 (UInt8.ofNat k)).set 2 (UInt8.ofNat ((32768 + k) / 256))).set 3 (UInt8.ofNat k)) = x1 from by rw [List.set_set]; exact hx1] at hO7
                have hd7 := (hd6.far (p := ⟨g4, 2, none⟩) (by show gq ≠ g4; omega) (Bv (UInt8.ofNat ((32768 + k) / 256)))).far (p := ⟨g4, 3, none⟩) (by show gq ≠ g4; omega) (Bv (UInt8.ofNat k))
                have hE7 := (hE6.setCell (p := ⟨g4, 2, none⟩) (by show w.heap.size ≤ g4; omega) (Bv (UInt8.ofNat ((32768 + k) / 256)))).setCell (p := ⟨g4, 3, none⟩) (by show w.heap.size ≤ g4; omega) (Bv (UInt8.ofNat k))
                have hbw : Bv (UInt8.ofNat ((32768 + k) / 256)) = .int .u8 (128 + (k : Int) / 256) := by
                  have t1 : (((32768 + k) / 256 % 2 ^ 8 : Nat) : Int) = 128 + (k : Int) / 256 := by omega
                  unfold Bv
                  rw [UInt8.toNat_ofNat', t1]
                have F := And.intro hO7 (And.intro hd7 hE7)
                rw [hbv, hbw] at F
                replace F := hide F
                have m1 : (128 + (k : Int) / 256) % 256 = 128 + (k : Int) / 256 := by omega
                have m2 : (k : Int) % 256 % 256 = (k : Int) % 256 := by omega
                have hk7 : (k : Int) ≤ 32767 := by omega
                clear hq h1 hr hp2 hp4 hx1 hO hO5 hO6 hO7 hd6 hd7 hE6 hE7 hdx hE hbv hbw hwi hw hp h0p pl1 hfd e6 e7 e8
                go_wp2_with fail
                go_meet
                exact F.out
          case rest =>
            obtain ⟨hO5, hd5, hE5⟩ := hcut
            clear hO hdx hE HQ1
            have hdx := hd5
            have hE := hE5
            clear hd5 hE5
            obtain ⟨x2, hx2⟩ : ∃ x, vs2 x1 s5 d lev = x := ⟨_, rfl⟩
            have HX2 := hide hx2
            obtain ⟨q2, hq2⟩ : ∃ q, (d.hasLevel && decide (0 ≤ lev)) = q := ⟨_, rfl⟩
            have HQ2 := hide hq2
            clear hx2 hq2
            go_upto_region 15 with fail
            go_cut [102] (fun v wx => v = .bool q2 ∧ wx = wc)
            case first => as_aux_lemma =>
              have x6 := hdx.cell 6
              simp at x6
              have hq := HQ2.out
              clear HPL HFD HW HN HX H1 HX1 HQ2 HX2
              cases hp : d.hasLevel
              all_goals
                rw [hp] at x6 hq
                subst hq
                clear hp
                go_wp2_with fail
                go_meet
                exact ⟨by simp, rfl⟩
            case rest =>
              obtain ⟨rfl, rfl⟩ := hcut
              go_upto_if 102 with (fail)
              go_cut [] (fun wx => wx.ownsRow B4 5 1 (.slice A4 n c4) n (x2.map Bv) ∧ Blk wx gq 53 #[.bool d.alone, .bool d.start, .int .i64 d.part, .bool d.hasPic, .bool d.wide, .int .i64 d.pic, .bool d.hasLevel, .int .i64 d.level, .bool d.hasTid, .bool d.hasKey, .int .i64 d.tid, .bool d.sync, .int .i64 d.key, .int .i64 (Nn : Int), .int .i64 fp, .int .i64 fl, .int .i64 fk, .int .i64 0] ∧ Ext w wx)
              case first => as_aux_lemma =>
                obtain ⟨-, pl2, -⟩ := HPL.out
                have hfd := HFD.out.2.1
                have h1 := H1.out.2.1
                have hx2 := HX2.out
                have hq := HQ2.out
                clear HPL HFD HW HN HX H1 HX1 HQ2 HX2
                unfold vs2 at hx2
                cases q2
                · have hnot : ¬ (d.hasLevel = true ∧ lev ≠ -1) := by
                    rintro ⟨r1, r2⟩
                    have := h1 r1
                    rw [r1] at hq
                    have hq : decide (0 ≤ lev) = false := hq
                    have := of_decide_eq_false hq
                    omega
                  rw [if_neg hnot] at hx2
                  subst hx2
                  clear hnot hq h1 pl2 hfd
                  go_wp2_with fail
                  go_meet
                  exact ⟨hO5, hdx, hE⟩
                · rw [Bool.and_eq_true] at hq
                  have hp := hq.1
                  have h0p := of_decide_eq_true hq.2
                  have hr := h1 hp
                  obtain ⟨L, hL, hLn⟩ := pl2 hp
                  rw [if_pos ⟨hp, by omega⟩] at hx2
                  obtain ⟨k, rfl⟩ := Int.eq_ofNat_of_zero_le h0p
                  rw [hL, Int.toNat_natCast, Int.toNat_natCast] at hx2
                  obtain rfl : fl = (L : Int) := by rw [hfd, hL]
                  have hbv : Bv (UInt8.ofNat k) = .int .u8 ((k : Int) % 256) := by simp [Bv]
                  have x15 := hdx.cell 15
                  simp at x15
                  have hin : (L : Int) < (n : Int) := by omega
                  obtain ⟨g4, rfl, hb4, hl4, hu4, hf4, hO6⟩ := own_setV L hLn (UInt8.ofNat k) hO5
                  rw [hx2] at hO6
                  have hd6 := hdx.far (p := ⟨g4, L, none⟩) (by show gq ≠ g4; omega) (Bv (UInt8.ofNat k))
                  have hE6 := hE.setCell (p := ⟨g4, L, none⟩) (by show w.heap.size ≤ g4; omega) (Bv (UInt8.ofNat k))
                  have F := And.intro hO6 (And.intro hd6 hE6)
                  rw [hbv] at F
                  replace F := hide F
                  clear hq h1 hr hL hx2 hO5 hO6 hd6 hE6 hdx hE hbv hp h0p pl2 hfd
                  go_wp2_with fail
                  go_meet
                  exact F.out
              case rest =>
                obtain ⟨hO7, hd7, hE7⟩ := hcut
                clear hO5 hdx hE HQ2
                have hdx := hd7
                have hE := hE7
                clear hd7 hE7
                have hx3 : vs3 x2 s5 d key = x := by
                  have h := HX.out
                  rw [HX1.out, HX2.out] at h
                  exact h.symm
                have HX3 := hide hx3
                clear hx3 HX HX1 HX2
                have hlen7 := (Bytes.own hO7).len
                obtain rfl : n = N := by
                  have h := HN.out
                  rw [← h, ← HX3.out]
                  unfold vs3
                  split
                  · rw [List.length_set, hlen7]
                  · exact hlen7.symm
                clear HN hlen7
                obtain ⟨q3, hq3⟩ : ∃ q, (d.hasKey && decide (0 ≤ key)) = q := ⟨_, rfl⟩
                have HQ3 := hide hq3
                clear hq3
                go_upto_region 17 with fail
                go_cut [115] (fun v wx => v = .bool q3 ∧ wx = wc)
                case first => as_aux_lemma =>
                  have x9 := hdx.cell 9
                  simp at x9
                  have hq := HQ3.out
                  clear HPL HFD HW H1 HQ3 HX3
                  cases hp : d.hasKey
                  all_goals
                    rw [hp] at x9 hq
                    subst hq
                    clear hp
                    go_wp2_with fail
                    go_meet
                    exact ⟨by simp, rfl⟩
                case rest =>
                  obtain ⟨rfl, rfl⟩ := hcut
                  go_upto_if 115 with (fail)
                  go_cut [] (fun wx => wx.ownsRow B4 5 1 (.slice A4 n c4) n (x.map Bv) ∧ Ext w wx)
                  case first => as_aux_lemma =>
                    obtain ⟨-, -, pl3⟩ := HPL.out
                    have hfd := HFD.out.2.2
                    have h1 := H1.out.2.2
                    have hx3 := HX3.out
                    have hq := HQ3.out
                    clear HPL HFD HW H1 HQ3 HX3
                    unfold vs3 at hx3
                    cases q3
                    · have hnot : ¬ (d.hasKey = true ∧ key ≠ -1) := by
                        rintro ⟨r1, r2⟩
                        have := h1 r1
                        rw [r1] at hq
                        have hq : decide (0 ≤ key) = false := hq
                        have := of_decide_eq_false hq
                        omega
                      rw [if_neg hnot] at hx3
                      subst hx3
                      clear hnot hq h1 pl3 hfd
                      go_wp2_with fail
                      go_meet
                      exact ⟨hO7, hE⟩
                    · rw [Bool.and_eq_true] at hq
                      have hp := hq.1
                      have h0p := of_decide_eq_true hq.2
                      have hr := h1 hp
                      obtain ⟨L, hL, hLn⟩ := pl3 hp
                      rw [if_pos ⟨hp, by omega⟩] at hx3
                      obtain ⟨k, rfl⟩ := Int.eq_ofNat_of_zero_le h0p
                      rw [hL, Int.toNat_natCast, Int.toNat_natCast] at hx3
                      obtain rfl : fk = (L : Int) := by rw [hfd hp, hL]
                      have hin : (L : Int) < (n : Int) := by omega
                      obtain ⟨ch, hch⟩ : ∃ ch, x2.getD L 0 = ch := ⟨_, rfl⟩
                      rw [hch] at hx3
                      have hch8 := ch.toNat_lt
                      have hkk : (ch.toNat : Int) / 32 * 32 + (k : Int) = ((UInt8.ofNat (ch.toNat / 32 * 32 + k)).toNat : Int) := by
                        rw [UInt8.toNat_ofNat']; omega
                      have hmod : (k : Int) % 256 = (k : Int) := by omega
                      obtain ⟨a, ha⟩ : ∃ a, UInt8.ofNat (ch.toNat / 32 * 32 + k) = a := ⟨_, rfl⟩
                      rw [ha] at hkk hx3
                      have hmod2 : ((ch.toNat : Int) / 32 * 32 + (k : Int)) % 256 = (a.toNat : Int) := by have := a.toNat_lt; omega
                      have hmod3 : (ch.toNat : Int) / 32 * 32 % 256 = (ch.toNat : Int) / 32 * 32 := by omega
                      have x16 := fun (W : World) (hW : Ext wc W) => (hdx.below hW hdx.lt).cell 16
                      simp at x16
                      obtain ⟨g4, rfl, hb4, hl4, hu4, hf4, hO6⟩ := own_setV L hLn a hO7
                      rw [hx3] at hO6
                      rw [hch] at hu4
                      have hu5 : wc.cell? ⟨g4, L, none⟩ = some (.int .u8 (ch.toNat : Int)) := hu4
                      have hE6 := hE.setCell (p := ⟨g4, L, none⟩) (by show w.heap.size ≤ g4; omega) (Bv a)
                      have F := hide (And.intro hO6 hE6)
                      have x16' := hdx.cell 16
                      simp at x16'
                      clear hq h1 hr hL hx3 hO7 hO6 hE6 hdx hE ha hch hu4 hp h0p pl3 hfd x16
                      go_upto_region 18 with fail
                      go_region
                      go_wp2_with fail
                      go_meet
                      obtain ⟨f1, f2⟩ := F.out
                      exact ⟨f1, f2.drew⟩
                  case rest =>
                    obtain ⟨hO8, hE8⟩ := hcut
                    go_wp2_with fail
                    go_ret2
                    exact ⟨A4, c4, rfl, Bytes.own hO8, hE8⟩
theorem rfset_any (A : Option Addr) (n c : Nat) (b : List UInt8) (pic lev key : Int) (w : World) (hb : Bytes w A n c b) (hn : n ≤ 1000000) (x : List UInt8) (hx : vsL b pic lev key = x) (E : Int) (hE : vsE b pic lev key = E) (N : Nat) (hN : x.length = N) :
    Calls Try.prog 24 #[.slice A n c, .int .i64 pic, .int .i64 lev, .int .i64 key] w fun e w' => ∃ A' c', e = .returned (.tuple #[.slice A' N c', .int .i64 E]) ∧ Bytes w' A' N c' x ∧ Ext w w' := by
  by_cases h0 : vrE b = 0
  · exact rfset_ok A n c b pic lev key w hb hn h0 x hx E hE N hN
  · have e1 : vsE b pic lev key = vrE b := by unfold vsE; rw [if_pos h0]
    have e2 : x = [] := by rw [← hx]; exact vsL_fail (by rw [e1]; exact h0)
    subst e2
    obtain rfl : 0 = N := hN
    rw [e1] at hE
    exact (rfset_no A n c b pic lev key w hb hn E hE (by rw [← hE]; exact h0)).mono fun _ _ h => ⟨none, 0, h.1, Bytes.nil _, h.2⟩
end Go.Proofs.Ytcdacnhggpfnaaa

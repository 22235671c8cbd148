/- Vp8Set: the walk. -/
import Derived.Test.YtcdacnhggpfnaaaVp8Aw
import Derived.Deep.DeepCutAuto
import Derived.BigQuiet
namespace Go.Proofs.Ytcdacnhggpfnaaa
open Go.RowKit
theorem eql_sameV (a0 a1 : Bool) (a2 : Int) (a3 a4 : Bool) (a5 : Int) (a6 : Bool) (a7 : Int) (a8 a9 : Bool) (a10 : Int) (a11 : Bool) (a12 : Int) (w : World) : (binOp .eql 45 (.agg #[.bool a0, .bool a1, .int .i64 a2, .bool a3, .bool a4, .int .i64 a5, .bool a6, .int .i64 a7, .bool a8, .bool a9, .int .i64 a10, .bool a11, .int .i64 a12]) (.agg #[.bool a0, .bool a1, .int .i64 a2, .bool a3, .bool a4, .int .i64 a5, .bool a6, .int .i64 a7, .bool a8, .bool a9, .int .i64 a10, .bool a11, .int .i64 a12])).run Try.prog w = .ok (.bool true) w := by
  have h := eql_vp8 ⟨a0, a1, a2, a3, a4, a5, a6, a7, a8, a9, a10, a11, a12⟩ ⟨a0, a1, a2, a3, a4, a5, a6, a7, a8, a9, a10, a11, a12⟩ w
  rwa [v8eq_refl] at h
set_option maxRecDepth 100000 in
set_option maxHeartbeats 8000000 in
theorem law_vp8set (A : Option Addr) (n c : Nat) (b : List UInt8) (pic lev key : Int) (w : World) (hb : Bytes w A n c b) :
    Calls Try.prog 7 #[.slice A n c, .int .i64 pic, .int .i64 lev, .int .i64 key] w fun e w' => e = .returned (.bool true) ∧ Ext w w' := by
  have hE := Ext.refl w
  by_cases hbig : 3000 < n
  · have d1 : (3000 : Int) < (n : Int) := by omega
    go_enter Try.func7, Try.ntmps7
    go_wp2_with fail
    refine (awake23 _).mono ?_
    rintro e w1 ⟨rfl, hE2⟩
    go_wp2_with fail
    go_ret
    exact ⟨rfl, hE2⟩
  have d1 : ¬ (3000 : Int) < (n : Int) := by omega
  have hn : n ≤ 1000000 := by omega
  clear hbig
  obtain ⟨E, hEe⟩ : ∃ E, vrE b = E := ⟨_, rfl⟩
  obtain ⟨d, hd⟩ : ∃ d, vrD b = d := ⟨_, rfl⟩
  obtain ⟨N, hN⟩ : ∃ N, vrN b = N := ⟨_, rfl⟩
  obtain ⟨F, hF⟩ : ∃ F, vsE b pic lev key = F := ⟨_, rfl⟩
  obtain ⟨x, hx⟩ : ∃ x, vsL b pic lev key = x := ⟨_, rfl⟩
  obtain ⟨M, hM⟩ : ∃ M, x.length = M := ⟨_, rfl⟩
  have S1 := hide (fun W hb => v8read_any A n c b W hb hn d hd N hN E hEe)
  have S2 := hide (fun W hb => v8set_any A n c b pic lev key W hb hn x hx F hF M hM)
  by_cases h0 : F = 0
  · subst h0
    have hE0 := (vsE_zero hF).1
    obtain rfl : E = 0 := by rw [← hEe]; exact hE0
    obtain ⟨a1, a2, a3, a4, a5⟩ := vs_read hF
    obtain ⟨b1, b2⟩ := vs_same hF
    obtain ⟨c1, c2⟩ := vs_none hE0
    obtain ⟨e1, e2, e3⟩ := vs_two hF
    obtain ⟨-, r1, r2⟩ := v8_read hE0
    rw [hx] at a1 a2 a3 a4 a5 b1 b2 e3
    rw [hd] at a2 b1 b2
    rw [hN] at a3 a5 r1 r2
    obtain ⟨one, hone⟩ : ∃ x, vsL b pic (-1) (-1) = x := ⟨_, rfl⟩
    rw [hone] at e2 e3
    have hlb := hb.len
    rw [hlb] at a4 r2
    obtain rfl : M = n := by rw [← hM, a4]
    have hl1 : one.length = M := by
      rw [← hone, (vs_read e1).2.2.2.1, hlb]
    have S3 := hide (fun W A c hX => v8read_any A M c x W hX hn (upd d pic lev key) a2 N a3 0 a1)
    have S4 := hide (fun W A c hX => v8set_any A M c x d.pic d.level d.key W hX hn b b2 0 b1 M hlb)
    have S5 := hide (fun W hb => v8set_any A M c b (-1) (-1) (-1) W hb hn b c2 0 c1 M hlb)
    have S6 := hide (fun W hb => v8set_any A M c b pic (-1) (-1) W hb hn one hone 0 e1 M hl1)
    have S7 := hide (fun W A c hO => v8set_any A M c one (-1) lev key W hO hn x e3 0 e2 M hM)
    have H5 := hide a5
    have hNM : (N : Int) ≤ (M : Int) := by omega
    have hN1 : (1 : Int) ≤ (N : Int) := by omega
    clear a1 a2 a3 a4 a5 b1 b2 c1 c2 e1 e2 e3 r1 r2 hE0 hEe hd hN hF hx hM hone hl1 hlb
    obtain ⟨da, ds, dp, dhp, dwi, dpc, dhl, dlv, dht, dhk, dti, dsy, dky⟩ := d
    unfold upd at S3
    dsimp only at S1 S3 S4
    obtain ⟨kp, hkp⟩ : ∃ k, (if dhp = true ∧ pic ≠ -1 then pic else dpc) = k := ⟨_, rfl⟩
    obtain ⟨kl, hkl⟩ : ∃ k, (if dhl = true ∧ lev ≠ -1 then lev else dlv) = k := ⟨_, rfl⟩
    obtain ⟨kk, hkk⟩ : ∃ k, (if dhk = true ∧ key ≠ -1 then key else dky) = k := ⟨_, rfl⟩
    rw [hkp, hkl, hkk] at S3
    have HK := hide (And.intro hkp (And.intro hkl hkk))
    clear hkp hkl hkk
    go_enter Try.func7, Try.ntmps7
    go_wp2_with fail
    refine (awake23 _).mono ?_
    rintro e w1 ⟨rfl, hE2⟩
    replace hE := hE.trans hE2
    replace hb := hb.ext hE2
    clear hE2
    go_wp2_with fail
    refine (S1.out _ hb).mono ?_
    rintro e w2 ⟨rfl, hE2⟩
    have hwd := (hE.trans hE2).size
    have hbd := Blk.new w2 45 #[.bool da, .bool ds, .int .i64 dp, .bool dhp, .bool dwi, .int .i64 dpc, .bool dhl, .int .i64 dlv, .bool dht, .bool dhk, .int .i64 dti, .bool dsy, .int .i64 dky]
    replace hE2 := hE2.alloc (.cells #[.bool da, .bool ds, .int .i64 dp, .bool dhp, .bool dwi, .int .i64 dpc, .bool dhl, .int .i64 dlv, .bool dht, .bool dhk, .int .i64 dti, .bool dsy, .int .i64 dky] 45)
    replace hE := hE.trans hE2
    replace hb := hb.ext hE2
    clear hE2 S1
    obtain ⟨gd, hgd⟩ : ∃ g, w2.heap.size = g := ⟨_, rfl⟩
    go_upto_region 6 with fail
    rw [hgd] at hbd hwd; try rw [hgd]
    generalize hgw : w2.alloc (.cells #[.bool da, .bool ds, .int .i64 dp, .bool dhp, .bool dwi, .int .i64 dpc, .bool dhl, .int .i64 dlv, .bool dht, .bool dhk, .int .i64 dti, .bool dsy, .int .i64 dky] 45) = w3 at *
    clear hgw hgd
    go_wp2_with fail
    refine (S2.out _ hb).mono ?_
    rintro e w4 ⟨Ax, cx, rfl, hX, hE2⟩
    replace hE := hE.trans hE2
    replace hb := hb.ext hE2
    replace hbd := hbd.below hE2 hbd.lt
    clear hE2 S2
    go_wp2_with fail
    refine (S3.out _ _ _ hX).mono ?_
    rintro e w5 ⟨rfl, hE2⟩
    replace hE := hE.trans hE2
    replace hb := hb.ext hE2
    replace hX := hX.ext hE2
    replace hbd := hbd.below hE2 hbd.lt
    clear hE2 S3
    have hltd := hbd.lt
    have hbk := Blk.new w5 45 #[.bool da, .bool ds, .int .i64 dp, .bool dhp, .bool dwi, .int .i64 kp, .bool dhl, .int .i64 kl, .bool dht, .bool dhk, .int .i64 dti, .bool dsy, .int .i64 kk]
    have hE2 := (Ext.refl w5).alloc (.cells #[.bool da, .bool ds, .int .i64 dp, .bool dhp, .bool dwi, .int .i64 kp, .bool dhl, .int .i64 kl, .bool dht, .bool dhk, .int .i64 dti, .bool dsy, .int .i64 kk] 45)
    replace hE := hE.trans hE2
    replace hb := hb.ext hE2
    replace hX := hX.ext hE2
    replace hbd := hbd.below hE2 hbd.lt
    clear hE2
    obtain ⟨gk, hgk⟩ : ∃ g, w5.heap.size = g := ⟨_, rfl⟩
    go_upto_region 10 with fail
    rw [hgk] at hbk; try rw [hgk]
    rw [hgk] at hltd
    have hne : gd ≠ gk := by omega
    generalize hgw : w5.alloc (.cells #[.bool da, .bool ds, .int .i64 dp, .bool dhp, .bool dwi, .int .i64 kp, .bool dhl, .int .i64 kl, .bool dht, .bool dhk, .int .i64 dti, .bool dsy, .int .i64 kk] 45) = w6 at *
    clear hgw hgk
    obtain ⟨⟨u0, u1, u2, u3, u4, u5, u6, u7, u8, u9, u10, u11, u12⟩, uf, _⟩ := hbd.thirteen
    go_wp2_with fail
    clear u0 u1 u2 u3 u4 u5 u6 u7 u8 u9 u10 u11 u12 uf
    refine (S4.out _ _ _ hX).mono ?_
    rintro e w7 ⟨As, cs, rfl, hS, hE2⟩
    replace hE := hE.trans hE2
    replace hb := hb.ext hE2
    replace hX := hX.ext hE2
    replace hbd := hbd.below hE2 hbd.lt
    replace hbk := hbk.below hE2 hbk.lt
    clear hE2 S4
    go_wp2_with fail
    refine (S5.out _ hb).mono ?_
    rintro e w8 ⟨An, cn, rfl, hNn, hE2⟩
    replace hE := hE.trans hE2
    replace hb := hb.ext hE2
    replace hX := hX.ext hE2
    replace hS := hS.ext hE2
    replace hbd := hbd.below hE2 hbd.lt
    replace hbk := hbk.below hE2 hbk.lt
    clear hE2 S5
    go_wp2_with fail
    refine (S6.out _ hb).mono ?_
    rintro e w9 ⟨Ao, co, rfl, hO, hE2⟩
    replace hE := hE.trans hE2
    replace hb := hb.ext hE2
    replace hX := hX.ext hE2
    replace hS := hS.ext hE2
    replace hNn := hNn.ext hE2
    replace hbd := hbd.below hE2 hbd.lt
    replace hbk := hbk.below hE2 hbk.lt
    clear hE2 S6
    go_wp2_with fail
    refine (S7.out _ _ _ hO).mono ?_
    rintro e w10 ⟨At, ct, rfl, hT, hE2⟩
    replace hE := hE.trans hE2
    replace hb := hb.ext hE2
    replace hX := hX.ext hE2
    replace hS := hS.ext hE2
    replace hNn := hNn.ext hE2
    replace hbd := hbd.below hE2 hbd.lt
    replace hbk := hbk.below hE2 hbk.lt
    clear hE2 S7 hO
    have s1 := fun j => run_str (hb.drewN j)
    have s2 := fun j => run_str (hX.drewN j)
    have s3 := fun j => run_str (hS.drewN j)
    have s4 := fun j => run_str (hNn.drewN j)
    have s5 := fun j => run_str (hT.drewN j)
    obtain ⟨gb, ob, rfl, _⟩ := hb.form (by omega)
    obtain ⟨gx, ox, rfl, _⟩ := hX.form (by omega)
    have hp6 : ∃ B6, Bytes w10 (if cx = N then some ⟨gx, ox, none⟩ else some ⟨gx, ox + N, none⟩) (M - N) (cx - N) B6 ∧ Bytes w10 (if c = N then some ⟨gb, ob, none⟩ else some ⟨gb, ob + N, none⟩) (M - N) (c - N) B6 := by
      have h1 := hX.dropIf (k := N) (by omega)
      have h2 := hb.dropIf (k := N) (by omega)
      rw [H5.out] at h1
      simp only [Option.map_some, add_base] at h1 h2
      exact ⟨_, h1, h2⟩
    obtain ⟨B6, hX6, hb6⟩ := hp6
    obtain ⟨Ad, hAd⟩ : ∃ a : Option Addr, (if cx = N then some ⟨gx, ox, none⟩ else some ⟨gx, ox + N, none⟩) = a := ⟨_, rfl⟩
    obtain ⟨Ae, hAe⟩ : ∃ a : Option Addr, (if c = N then some ⟨gb, ob, none⟩ else some ⟨gb, ob + N, none⟩) = a := ⟨_, rfl⟩
    rw [hAd] at hX6
    rw [hAe] at hb6
    have s6 := fun j => run_str (hX6.drewN j)
    have s7 := fun j => run_str (hb6.drewN j)
    have hxle := hX.le
    have hble := hb.le
    clear hX6 hb6 hT hS hNn
    go_upto_region 14 with fail
    go_cut [163] (fun v wx => v = .bool false ∧ Ext w10 wx)
    case first => as_aux_lemma =>
      clear HK H5
      have t1 : ¬ N < 1 := by omega
      have t2 : ¬ M < N := by omega
      have t3 : decide (M < N) = false := decide_eq_false t2
      dsimp only [List.append]
      go_quiet (fail)
      go_wp2_with fail
      go_meet
      refine ⟨?_, (Ext.refl _).drewN _⟩
      first | rfl | exact congrArg Value.bool (decide_eq_false (by omega))
    case rest =>
      obtain ⟨rfl, hE2⟩ := hcut
      clear s1 s2 s3 s4 s5 s6 s7
      replace hE := hE.trans hE2
      replace hb := hb.ext hE2
      replace hX := hX.ext hE2
      replace hbd := hbd.below hE2 hbd.lt
      replace hbk := hbk.below hE2 hbk.lt
      clear hE2
      have q1 := eql_sameV da ds dp dhp dwi kp dhl kl dht dhk dti dsy kk
      obtain ⟨hk1, hk2, hk3⟩ := HK.out
      replace HK := hide hk1
      have HKL := hide hk2
      have HKK := hide hk3
      clear hk1 hk2 hk3
      clear H5 hX hb hAd hAe
      obtain ⟨z5, hz5⟩ : ∃ z, (dhp && (pic != -1)) = z := ⟨_, rfl⟩
      have HZ := hide hz5
      clear hz5
      go_upto_region 16 with fail
      go_cut [169] (fun v wx => v = .bool z5 ∧ wx = wc)
      case first => as_aux_lemma =>
        obtain ⟨⟨u0, u1, u2, u3, u4, u5, u6, u7, u8, u9, u10, u11, u12⟩, uf, _⟩ := hbd.thirteen
        clear hbk HK HKL HKK
        cases dhp
        · obtain rfl : false = z5 := HZ.out
          go_wp2_with fail
          go_meet
          exact ⟨rfl, rfl⟩
        · by_cases hq : pic = -1
          · subst hq
            obtain rfl : false = z5 := HZ.out
            go_wp2_with fail
            go_meet
            exact ⟨rfl, rfl⟩
          · have hq1 : (pic != -1) = true := bne_iff_ne.2 hq
            obtain rfl : true = z5 := by have h := HZ.out; rw [hq1] at h; exact h
            go_wp2_with fail
            go_meet
            exact ⟨rfl, rfl⟩
      case rest =>
        obtain ⟨rfl, rfl⟩ := hcut
        go_upto_if 169 with (fail)
        go_cut [] (fun wx => Blk wx gd 45 #[.bool da, .bool ds, .int .i64 dp, .bool dhp, .bool dwi, .int .i64 kp, .bool dhl, .int .i64 dlv, .bool dht, .bool dhk, .int .i64 dti, .bool dsy, .int .i64 dky] ∧ Blk wx gk 45 #[.bool da, .bool ds, .int .i64 dp, .bool dhp, .bool dwi, .int .i64 kp, .bool dhl, .int .i64 kl, .bool dht, .bool dhk, .int .i64 dti, .bool dsy, .int .i64 kk] ∧ Ext w wx)
        case first => as_aux_lemma =>
          obtain ⟨⟨u0, u1, u2, u3, u4, u5, u6, u7, u8, u9, u10, u11, u12⟩, uf, _⟩ := hbd.thirteen
          cases z5
          · obtain rfl : dpc = kp := by
              have h := HK.out
              rw [← h, if_neg]
              rintro ⟨r1, r2⟩
              have h2 := HZ.out
              rw [r1, bne_iff_ne.2 r2] at h2
              cases h2
            clear HK HKL HKK HZ
            go_wp2_with fail
            go_meet
            exact ⟨hbd, hbk, hE⟩
          · obtain rfl : pic = kp := by
              have h := HK.out
              have h2 := HZ.out
              rw [Bool.and_eq_true] at h2
              rw [← h, if_pos ⟨h2.1, bne_iff_ne.1 h2.2⟩]
            have hbf := hbd.set_ 5 (.int .i64 pic)
            simp only [List.setIfInBounds_toArray, List.set_cons_zero, List.set_cons_succ] at hbf
            have F := hide (And.intro hbf (And.intro (hbk.far (p := ⟨gd, 5, none⟩) (fun e => hne (by have e' : gk = gd := e; exact e'.symm)) (.int .i64 pic)) (hE.setCell (p := ⟨gd, 5, none⟩) hwd (.int .i64 pic))))
            clear HK HKL HKK HZ hbf hbk hE hbd
            go_wp2_with fail
            go_meet
            exact F.out
        case rest =>
          obtain ⟨hbd2, hbk2, hE2⟩ := hcut
          clear HZ hbd hbk hE
          have hbd := hbd2
          have hbk := hbk2
          have hE := hE2
          clear hbd2 hbk2 hE2
          obtain ⟨z7, hz7⟩ : ∃ z, (dhl && (lev != -1)) = z := ⟨_, rfl⟩
          have HZ := hide hz7
          clear hz7
          go_upto_region 18 with fail
          go_cut [177] (fun v wx => v = .bool z7 ∧ wx = wc)
          case first => as_aux_lemma =>
            obtain ⟨⟨u0, u1, u2, u3, u4, u5, u6, u7, u8, u9, u10, u11, u12⟩, uf, _⟩ := hbd.thirteen
            clear hbk HK HKL HKK
            cases dhl
            · obtain rfl : false = z7 := HZ.out
              go_wp2_with fail
              go_meet
              exact ⟨rfl, rfl⟩
            · by_cases hq : lev = -1
              · subst hq
                obtain rfl : false = z7 := HZ.out
                go_wp2_with fail
                go_meet
                exact ⟨rfl, rfl⟩
              · have hq1 : (lev != -1) = true := bne_iff_ne.2 hq
                obtain rfl : true = z7 := by have h := HZ.out; rw [hq1] at h; exact h
                go_wp2_with fail
                go_meet
                exact ⟨rfl, rfl⟩
          case rest =>
            obtain ⟨rfl, rfl⟩ := hcut
            go_upto_if 177 with (fail)
            go_cut [] (fun wx => Blk wx gd 45 #[.bool da, .bool ds, .int .i64 dp, .bool dhp, .bool dwi, .int .i64 kp, .bool dhl, .int .i64 kl, .bool dht, .bool dhk, .int .i64 dti, .bool dsy, .int .i64 dky] ∧ Blk wx gk 45 #[.bool da, .bool ds, .int .i64 dp, .bool dhp, .bool dwi, .int .i64 kp, .bool dhl, .int .i64 kl, .bool dht, .bool dhk, .int .i64 dti, .bool dsy, .int .i64 kk] ∧ Ext w wx)
            case first => as_aux_lemma =>
              obtain ⟨⟨u0, u1, u2, u3, u4, u5, u6, u7, u8, u9, u10, u11, u12⟩, uf, _⟩ := hbd.thirteen
              cases z7
              · obtain rfl : dlv = kl := by
                  have h := HKL.out
                  rw [← h, if_neg]
                  rintro ⟨r1, r2⟩
                  have h2 := HZ.out
                  rw [r1, bne_iff_ne.2 r2] at h2
                  cases h2
                clear HK HKL HKK HZ
                go_wp2_with fail
                go_meet
                exact ⟨hbd, hbk, hE⟩
              · obtain rfl : lev = kl := by
                  have h := HKL.out
                  have h2 := HZ.out
                  rw [Bool.and_eq_true] at h2
                  rw [← h, if_pos ⟨h2.1, bne_iff_ne.1 h2.2⟩]
                have hbf := hbd.set_ 7 (.int .i64 lev)
                simp only [List.setIfInBounds_toArray, List.set_cons_zero, List.set_cons_succ] at hbf
                have F := hide (And.intro hbf (And.intro (hbk.far (p := ⟨gd, 7, none⟩) (fun e => hne (by have e' : gk = gd := e; exact e'.symm)) (.int .i64 lev)) (hE.setCell (p := ⟨gd, 7, none⟩) hwd (.int .i64 lev))))
                clear HK HKL HKK HZ hbf hbk hE hbd
                go_wp2_with fail
                go_meet
                exact F.out
            case rest =>
              obtain ⟨hbd2, hbk2, hE2⟩ := hcut
              clear HZ hbd hbk hE
              have hbd := hbd2
              have hbk := hbk2
              have hE := hE2
              clear hbd2 hbk2 hE2
              obtain ⟨z12, hz12⟩ : ∃ z, (dhk && (key != -1)) = z := ⟨_, rfl⟩
              have HZ := hide hz12
              clear hz12
              go_upto_region 20 with fail
              go_cut [185] (fun v wx => v = .bool z12 ∧ wx = wc)
              case first => as_aux_lemma =>
                obtain ⟨⟨u0, u1, u2, u3, u4, u5, u6, u7, u8, u9, u10, u11, u12⟩, uf, _⟩ := hbd.thirteen
                clear hbk HK HKL HKK
                cases dhk
                · obtain rfl : false = z12 := HZ.out
                  go_wp2_with fail
                  go_meet
                  exact ⟨rfl, rfl⟩
                · by_cases hq : key = -1
                  · subst hq
                    obtain rfl : false = z12 := HZ.out
                    go_wp2_with fail
                    go_meet
                    exact ⟨rfl, rfl⟩
                  · have hq1 : (key != -1) = true := bne_iff_ne.2 hq
                    obtain rfl : true = z12 := by have h := HZ.out; rw [hq1] at h; exact h
                    go_wp2_with fail
                    go_meet
                    exact ⟨rfl, rfl⟩
              case rest =>
                obtain ⟨rfl, rfl⟩ := hcut
                go_upto_if 185 with (fail)
                go_cut [] (fun wx => Blk wx gd 45 #[.bool da, .bool ds, .int .i64 dp, .bool dhp, .bool dwi, .int .i64 kp, .bool dhl, .int .i64 kl, .bool dht, .bool dhk, .int .i64 dti, .bool dsy, .int .i64 kk] ∧ Blk wx gk 45 #[.bool da, .bool ds, .int .i64 dp, .bool dhp, .bool dwi, .int .i64 kp, .bool dhl, .int .i64 kl, .bool dht, .bool dhk, .int .i64 dti, .bool dsy, .int .i64 kk] ∧ Ext w wx)
                case first => as_aux_lemma =>
                  obtain ⟨⟨u0, u1, u2, u3, u4, u5, u6, u7, u8, u9, u10, u11, u12⟩, uf, _⟩ := hbd.thirteen
                  cases z12
                  · obtain rfl : dky = kk := by
                      have h := HKK.out
                      rw [← h, if_neg]
                      rintro ⟨r1, r2⟩
                      have h2 := HZ.out
                      rw [r1, bne_iff_ne.2 r2] at h2
                      cases h2
                    clear HK HKL HKK HZ
                    go_wp2_with fail
                    go_meet
                    exact ⟨hbd, hbk, hE⟩
                  · obtain rfl : key = kk := by
                      have h := HKK.out
                      have h2 := HZ.out
                      rw [Bool.and_eq_true] at h2
                      rw [← h, if_pos ⟨h2.1, bne_iff_ne.1 h2.2⟩]
                    have hbf := hbd.set_ 12 (.int .i64 key)
                    simp only [List.setIfInBounds_toArray, List.set_cons_zero, List.set_cons_succ] at hbf
                    have F := hide (And.intro hbf (And.intro (hbk.far (p := ⟨gd, 12, none⟩) (fun e => hne (by have e' : gk = gd := e; exact e'.symm)) (.int .i64 key)) (hE.setCell (p := ⟨gd, 12, none⟩) hwd (.int .i64 key))))
                    clear HK HKL HKK HZ hbf hbk hE hbd
                    go_wp2_with fail
                    go_meet
                    exact F.out
                case rest =>
                  obtain ⟨hbd2, hbk2, hE2⟩ := hcut
                  clear HZ hbd hbk hE
                  have hbd := hbd2
                  have hbk := hbk2
                  have hE := hE2
                  clear hbd2 hbk2 hE2
                  obtain ⟨⟨u0, u1, u2, u3, u4, u5, u6, u7, u8, u9, u10, u11, u12⟩, uf, _⟩ := hbd.thirteen
                  obtain ⟨⟨y0, y1, y2, y3, y4, y5, y6, y7, y8, y9, y10, y11, y12⟩, yf, _⟩ := hbk.thirteen
                  clear HK HKL HKK hbd hbk
                  go_wp2_with fail
                  go_ret
                  exact ⟨rfl, hE⟩
  · have hx0 : x = [] := by rw [← hx]; exact vsL_fail (by rw [hF]; exact h0)
    subst hx0
    obtain rfl : 0 = M := hM
    have hne : (F != 0) = true := bne_iff_ne.2 h0
    clear hF hx hN hd h0
    by_cases hE0 : E = 0
    · subst hE0
      clear hEe
      go_enter Try.func7, Try.ntmps7
      go_wp2_with fail
      refine (awake23 _).mono ?_
      rintro e w1 ⟨rfl, hE2⟩
      replace hE := hE.trans hE2
      replace hb := hb.ext hE2
      clear hE2
      go_wp2_with fail
      refine (S1.out _ hb).mono ?_
      rintro e w2 ⟨rfl, hE2⟩
      replace hE2 := hE2.alloc (.cells #[.bool d.alone, .bool d.start, .int .i64 d.part, .bool d.hasPic, .bool d.wide, .int .i64 d.pic, .bool d.hasLevel, .int .i64 d.level, .bool d.hasTid, .bool d.hasKey, .int .i64 d.tid, .bool d.sync, .int .i64 d.key] 45)
      replace hE := hE.trans hE2
      replace hb := hb.ext hE2
      clear hE2
      go_wp2_with fail
      refine (S2.out _ hb).mono ?_
      rintro e w4 ⟨Ax, cx, rfl, hX, hE2⟩
      go_wp2_with fail
      go_ret
      exact ⟨rfl, hE.trans hE2⟩
    · have hne2 : (E != 0) = true := bne_iff_ne.2 hE0
      clear hEe hE0
      go_enter Try.func7, Try.ntmps7
      go_wp2_with fail
      refine (awake23 _).mono ?_
      rintro e w1 ⟨rfl, hE2⟩
      replace hE := hE.trans hE2
      replace hb := hb.ext hE2
      clear hE2
      go_wp2_with fail
      refine (S1.out _ hb).mono ?_
      rintro e w2 ⟨rfl, hE2⟩
      replace hE2 := hE2.alloc (.cells #[.bool d.alone, .bool d.start, .int .i64 d.part, .bool d.hasPic, .bool d.wide, .int .i64 d.pic, .bool d.hasLevel, .int .i64 d.level, .bool d.hasTid, .bool d.hasKey, .int .i64 d.tid, .bool d.sync, .int .i64 d.key] 45)
      replace hE := hE.trans hE2
      replace hb := hb.ext hE2
      clear hE2
      go_wp2_with fail
      refine (S2.out _ hb).mono ?_
      rintro e w4 ⟨Ax, cx, rfl, hX, hE2⟩
      go_wp2_with fail
      go_ret
      exact ⟨rfl, hE.trans hE2⟩
end Go.Proofs.Ytcdacnhggpfnaaa

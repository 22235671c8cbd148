/- TrainSplits: the walk. (Printed by wip/gen/lawtrains.py.) -/
import Derived.Test.YthepndimhiieiaaTrainO
import Derived.Test.YthepndimhiieiaaTrainR
import Derived.Test.YthepndimhiieiaaTrainAw
import Derived.Test.YthepndimhiieiaaPlainTrainS
import Derived.Test.YthepndimhiieiaaReg
import Derived.Deep.DeepCutAuto
namespace Go.Proofs.Ythepndimhiieiaa
open Go.RowKit
theorem tcar (kv cv : Nat) (hkv : kv < 256) (hcv : cv < 32) (tz : Int) (tn : Nat) (htz : tz = (tn : Int)) (htn : tn ≤ 252 ∧ tn % 4 = 0) (A : Option Addr) (m c : Nat) (x : List UInt8) (W : World) (hx : Bytes W A m c x) (hm : m ≤ 300 ∧ m % 4 = 0) (y : List UInt8) (hy : clBytes kv cv x tn = y) (N : Nat) (hN : 4 + m + tn = N) (B : Nat) (hB : B ≤ W.heap.size) :
    Calls Try.prog 37 #[.int .i64 (kv : Int), .int .i64 (cv : Int), .slice A m c, .int .i64 tz] W fun e w' => ∃ A' c', e = .returned (.tuple #[.slice A' N c', .int .i64 0]) ∧ w'.ownsRow B 5 1 (.slice A' N c') N (y.map Bv) ∧ Ext W w' := by
  subst htz hN
  refine (tclose_O kv cv tn A m c x W hx ?_ y hy).mono fun e w' ⟨A', c', he, ho, hE⟩ => ⟨A', c', he, own_more ho hB, hE⟩
  unfold clOK cRight
  rw [decide_eq_true (by omega), decide_eq_true (by omega)]
  rfl
theorem tcar_plain (kv cv : Nat) (hkv : kv < 256) (hcv : cv < 32) (tn : Nat) (htn : tn ≤ 252 ∧ tn % 4 = 0) (m : Nat) (x : List UInt8) (hx : x.length = m) (hm : m ≤ 300 ∧ m % 4 = 0) (y : List UInt8) (hy : clBytes kv cv x tn = y) : Whole y ∧ (cP y = true → 0 < tn) ∧ y.length = 4 + m + tn := by
  subst hy hx
  have h : clOK (kv : Int) (cv : Int) x.length (tn : Int) = true := by
    unfold clOK cRight
    rw [decide_eq_true (by omega), decide_eq_true (by omega)]
    rfl
  obtain ⟨h1, h2⟩ := close_whole _ _ x tn h
  exact ⟨h1, h2, cl_len _ _ x tn h⟩
set_option maxRecDepth 100000 in
set_option maxHeartbeats 4000000 in
theorem law_trainsplits (A : Option Addr) (n c : Nat) (kinds : List UInt8) (A2 : Option Addr) (n2 c2 : Nat) (counts : List UInt8) (A3 : Option Addr) (K c3 : Nat) (bodies : List (List UInt8)) (t : Nat) (ht : t < 256) (A4 : Option Addr) (n4 c4 : Nat) (b : List UInt8) (cut : Nat) (hcut : cut < 65536) (w : World) (hk : Bytes w A n c kinds) (hn : Bytes w A2 n2 c2 counts) (hl : Slices w A3 K c3 bodies) (hb : Bytes w A4 n4 c4 b) :
    Calls Try.prog 11 #[.slice A n c, .slice A2 n2 c2, .slice A3 K c3, .int .u8 (t : Int), .slice A4 n4 c4, .int .u16 (cut : Int)] w fun e w' => e = .returned (.bool true) ∧ Ext w w' := by
  by_cases hbig : 20 < K ∨ n < K ∨ n2 < K ∨ 3000 < n4
  · have d1 : (20 : Int) < (K : Int) ∨ (¬ (20 : Int) < (K : Int) ∧ (n : Int) < (K : Int)) ∨ (¬ (20 : Int) < (K : Int) ∧ ¬ (n : Int) < (K : Int) ∧ (n2 : Int) < (K : Int)) ∨ (¬ (20 : Int) < (K : Int) ∧ ¬ (n : Int) < (K : Int) ∧ ¬ (n2 : Int) < (K : Int) ∧ (3000 : Int) < (n4 : Int)) := by omega
    rcases d1 with d1 | ⟨d1, d2⟩ | ⟨d1, d2, d3⟩ | ⟨d1, d2, d3, d4⟩
    all_goals
      go_enter Try.func11, Try.ntmps11
      go_wp2_with fail
      refine (awake11 _).mono ?_
      rintro e w1 ⟨rfl, hE2⟩
      go_wp2_with fail
      go_ret
      exact ⟨rfl, hE2⟩
  · have d1 : ¬ (20 : Int) < (K : Int) := by omega
    have d2 : ¬ (n : Int) < (K : Int) := by omega
    have d3 : ¬ (n2 : Int) < (K : Int) := by omega
    have d4 : ¬ (3000 : Int) < (n4 : Int) := by omega
    have HB := hide (And.intro d1 (And.intro d2 (And.intro d3 d4)))
    clear hbig
    obtain ⟨T⟩ := tyS
    have hkl := hl.len
    go_enter Try.func11, Try.ntmps11
    go_wp2_with fail
    refine (awake11 _).mono ?_
    rintro e w1 ⟨rfl, hE⟩
    replace hk := hk.ext hE
    replace hn := hn.ext hE
    replace hl := hl.ext hE
    replace hb := hb.ext hE
    go_wp2_with fail
    rename_i y1 y2 y3 y4 y5
    clear y1 y2 y3 d1 d2 d3 d4
    go_loopw [13, 14, 15] (fun vo va vi wr => ∃ (i : Nat) (A5 : Option Addr) (c5 : Nat) (hs : List Sl) (D : List (List UInt8)) (A6 : Option Addr) (N c6 : Nat), vo = .slice A5 i c5 ∧ va = .slice A6 N c6 ∧ vi = .int .i64 (i : Int) ∧ i ≤ K ∧ D.length = i ∧ N ≤ 1000 * i ∧ wr.ownsRow w1.heap.size 25 eS.size (.slice A5 i c5) i (eS.cells hs) ∧ Cars wr w1.heap.size hs D ∧ wr.ownsRow w1.heap.size 5 1 (.slice A6 N c6) N ((cat D).map Bv) ∧ Apart hs (.slice A6 N c6) ∧ Cs D ∧ (i < K → ∀ d ∈ D, cP d = false) ∧ Ext w1 wr) (fun _ _ vi _ => K - (intOf vi).toNat)
    case atStart => exact ⟨0, none, 0, [], [], none, 0, 0, rfl, rfl, rfl, Nat.zero_le _, rfl, by omega, World.ownsRow_nil _ _ _ _, trivial, World.ownsRow_nil _ _ _ _, fun x hx => absurd hx (by simp), trivial, fun _ d hd => absurd hd (by simp), Ext.refl _⟩
    case round =>
      obtain ⟨d1, d2, d3, d4⟩ := HB.out
      obtain ⟨i, A5, c5, hs, D, A6, N, c6, rfl, rfl, rfl, hi, hDl, hN, hO5, hC, hO6, hap, hCs, hpf, hX⟩ := hrel
      by_cases hlt : i < K
      · have hin : i < n := by omega
        have hin2 : i < n2 := by omega
        have hN2 : N ≤ 20000 := by omega
        have hi20 : i ≤ 20 := by omega
        clear d1 d2 d3 d4
        obtain ⟨g3, o3, rfl, hg3, hget⟩ := hl.get (by omega)
        obtain ⟨Ai, ni, ci, hcellw, hBi⟩ := hget i (by omega)
        have hcell := (hX.cell (p := ⟨g3, o3 + i, none⟩) hg3).trans hcellw
        replace hBi := hBi.ext hX
        obtain ⟨body, hbody⟩ : ∃ x, bodies[i]'(by omega) = x := ⟨_, rfl⟩
        rw [hbody] at hBi
        clear hget hbody
        have hlt2 : (i : Int) < (K : Int) := by omega
        by_cases hbig2 : 300 < ni
        · have hb2 : (300 : Int) < (ni : Int) := by omega
          go_wp2_with fail
          go_ret
          exact ⟨rfl, hE.trans hX⟩
        · have hb2 : ¬ (300 : Int) < (ni : Int) := by omega
          have hcase : (i + 1 = K ∧ ((i : Int) == (K : Int) - 1) = true) ∨ (i + 1 ≠ K ∧ ((i : Int) == (K : Int) - 1) = false) := by
            by_cases q : i + 1 = K
            · exact .inl ⟨q, by rw [beq_iff_eq]; omega⟩
            · exact .inr ⟨q, by rw [beq_eq_false_iff_ne]; omega⟩
          have hKw : IntKind.i64.wrap ((K : Int) - 1) = (K : Int) - 1 := IntWalk.i64_in _ (by have := HB.out; omega)
          go_upto_if 72 with (fail)
          go_cut [16] (fun v16 wx => ∃ tn : Nat, v16 = .int .i64 (tn : Int) ∧ tn ≤ 252 ∧ tn % 4 = 0 ∧ (i + 1 < K → tn = 0) ∧ wr = wx)
          case first =>
            rcases hcase with ⟨hlast, q1⟩ | ⟨hlast, q1⟩
            · go_wp2_with fail
              go_meet
              case rel => exact ⟨4 * (t % 64), by congr 1, by omega, by omega, by omega, rfl⟩
            · go_wp2_with fail
              go_meet
              case rel => exact ⟨0, rfl, by omega, by omega, fun _ => rfl, rfl⟩
          case rest =>
          obtain ⟨tn, rfl, htn1, htn3, htn0, rfl⟩ := hcut
          clear hcase
          obtain ⟨gk, ok, rfl, hgk⟩ := hk.plain (by omega)
          obtain ⟨gn, on, rfl, hgn⟩ := hn.plain (by omega)
          obtain ⟨kv, hkv⟩ : ∃ x, (kinds.getD i 0).toNat = x := ⟨_, rfl⟩
          obtain ⟨cv0, hcv0⟩ : ∃ x, (counts.getD i 0).toNat = x := ⟨_, rfl⟩
          have hkv2 : kv < 256 := by rw [← hkv]; exact UInt8.toNat_lt _
          have hcv2 : cv0 < 256 := by rw [← hcv0]; exact UInt8.toNat_lt _
          have fk : ∀ W, Ext w1 W → W.cell? ⟨gk, ok + i, none⟩ = some (.int .u8 (kv : Int)) := fun W hW => by rw [← hkv]; exact (hk.ext hW).cellK i (by omega)
          have fn : ∀ W, Ext w1 W → W.cell? ⟨gn, on + i, none⟩ = some (.int .u8 (cv0 : Int)) := fun W hW => by rw [← hcv0]; exact (hn.ext hW).cellK i (by omega)
          have fl : ∀ W, Ext w1 W → W.cell? ⟨g3, o3 + i, none⟩ = some (.slice Ai ni ci) := fun W hW => (hW.cell (p := ⟨g3, o3 + i, none⟩) hg3).trans hcellw
          have FK := hide fk
          have FN := hide fn
          have FL := hide fl
          obtain ⟨cv, hcv⟩ : ∃ x, cv0 % 32 = x := ⟨_, rfl⟩
          have hcv32 : cv < 32 := by omega
          obtain ⟨q, hq⟩ : ∃ q, ni / 4 = q := ⟨_, rfl⟩
          obtain ⟨m, hm⟩ : ∃ m, q * 4 = m := ⟨_, rfl⟩
          have hmn : m ≤ ni := by omega
          have hm4 : m ≤ 300 ∧ m % 4 = 0 := by omega
          have hBm := hBi.take hmn
          obtain ⟨x, hx⟩ : ∃ x, body.take m = x := ⟨_, rfl⟩
          rw [hx] at hBm
          have hnci := hBi.le
          have hcci := hBi.reach
          have k1 : IntKind.i64.wrap (kv : Int) = (kv : Int) := IntWalk.i64_in _ (by omega)
          have k2 : IntKind.i64.wrap (cv0 : Int) = (cv0 : Int) := IntWalk.i64_in _ (by omega)
          have k3 : (cv0 : Int).tmod 32 = (cv : Int) := by rw [Int.tmod_eq_emod_of_nonneg (by omega)]; omega
          have k3b : (cv0 : Int) % 32 = (cv : Int) := by omega
          have k4 : IntKind.i64.wrap (cv : Int) = (cv : Int) := IntWalk.i64_in _ (by omega)
          have k5 : (ni : Int).tdiv 4 = (q : Int) := by rw [Int.tdiv_eq_ediv_of_nonneg (by omega)]; omega
          have k5b : (ni : Int) / 4 = (q : Int) := by omega
          have k6 : IntKind.i64.wrap (q : Int) = (q : Int) := IntWalk.i64_in _ (by omega)
          have k7 : (q : Int) * 4 = (m : Int) := by omega
          have k8 : IntKind.i64.wrap (m : Int) = (m : Int) := IntWalk.i64_in _ (by omega)
          have k9 : (m : Int) ≤ (ci : Int) := by omega
          have k10 : IntKind.i64.wrap (ni : Int) = (ni : Int) := IntWalk.i64_in _ (by omega)
          have HK := hide (And.intro k1 (And.intro k2 (And.intro k3 (And.intro k3b (And.intro k4 (And.intro k5 (And.intro k5b (And.intro k6 (And.intro k7 (And.intro k8 (And.intro k9 k10)))))))))))
          clear fk fn fl hcellw k1 k2 k3 k3b k4 k5 k5b k6 k7 k8 k9 k10 hkv hcv0 hcv hq hm hx
          have htn2 : tn ≤ 252 ∧ tn % 4 = 0 := ⟨htn1, htn3⟩
          obtain ⟨y, hy⟩ : ∃ y, clBytes (kv : Int) (cv : Int) x tn = y := ⟨_, rfl⟩
          obtain ⟨M, hM⟩ : ∃ M, 4 + m + tn = M := ⟨_, rfl⟩
          have S := hide (fun W A c h hB => tcar kv cv hkv2 hcv32 (tn : Int) tn rfl htn2 A m c x W h hm4 y hy M hM wr.heap.size hB)
          obtain ⟨w1', w2', w3'⟩ := tcar_plain kv cv hkv2 hcv32 tn htn2 m x hBm.len hm4 y hy
          rw [hM] at w3'
          have hpy : i + 1 < K → cP y = false := fun q => by
            cases hp : cP y
            · rfl
            · have := w2' hp
              have := htn0 q
              omega
          have hsn := hCs.snoc (hpf hlt) w1'
          have HP := hide (And.intro hpy (And.intro hsn w3'))
          have hMp : 4 ≤ M := by omega
          have hMb : M ≤ 1000 := by omega
          clear hy hM w1' w2' w3' hpy hsn htn0 htn2 htn1 htn3
          go_upto_region 15 with fail
          obtain ⟨k1, k2, k3, k3b, k4, k5, k5b, k6, k7, k8, k9, k10⟩ := HK.out
          have hX0 := hX
          clear hX
          refine regE_start (by as_aux_lemma => kernel_rfl) ?_
          have hR := (Ext.refl wr).drew
          generalize hgw : (wr).drew = wr0 at *
          clear hgw
          refine regE_take (i := 0) (v := ?_) rfl (by as_aux_lemma => kernel_rfl) (by as_aux_lemma => kernel_rfl) (by as_aux_lemma => kernel_rfl) (fun _ _ _ h => h) (by rfl) ?_ ?_
          rotate_left
          · intro W hW; go_simp; try with_reducible rfl
          simp only [Act.put, List.setIfInBounds_toArray, List.set_cons_zero, List.set_cons_succ]
          refine regE_take (i := 1) (v := ?_) rfl (by as_aux_lemma => kernel_rfl) (by as_aux_lemma => kernel_rfl) (by as_aux_lemma => kernel_rfl) (fun _ _ _ h => h) (by rfl) ?_ ?_
          rotate_left
          · intro W hW; go_simp; try with_reducible rfl
          simp only [Act.put, List.setIfInBounds_toArray, List.set_cons_zero, List.set_cons_succ]
          refine regE_take (i := 2) (v := ?_) rfl (by as_aux_lemma => kernel_rfl) (by as_aux_lemma => kernel_rfl) (by as_aux_lemma => kernel_rfl) (fun _ _ _ h => h) (by rfl) ?_ ?_
          rotate_left
          · intro W hW; go_simp; try with_reducible rfl
          simp only [Act.put, List.setIfInBounds_toArray, List.set_cons_zero, List.set_cons_succ]
          refine regE_take (i := 3) (v := ?_) rfl (by as_aux_lemma => kernel_rfl) (by as_aux_lemma => kernel_rfl) (by as_aux_lemma => kernel_rfl) (fun _ _ _ h => h) (by rfl) ?_ ?_
          rotate_left
          · intro W hW; have s1 := FK.out _ (hX0.trans hW); go_simp; try with_reducible rfl
          simp only [Act.put, List.setIfInBounds_toArray, List.set_cons_zero, List.set_cons_succ]
          refine regE_take (i := 4) (v := ?_) rfl (by as_aux_lemma => kernel_rfl) (by as_aux_lemma => kernel_rfl) (by as_aux_lemma => kernel_rfl) (fun _ _ _ h => h) (by rfl) ?_ ?_
          rotate_left
          · intro W hW; go_simp; try with_reducible rfl
          simp only [Act.put, List.setIfInBounds_toArray, List.set_cons_zero, List.set_cons_succ]
          refine regE_take (i := 5) (v := ?_) rfl (by as_aux_lemma => kernel_rfl) (by as_aux_lemma => kernel_rfl) (by as_aux_lemma => kernel_rfl) (fun _ _ _ h => h) (by rfl) ?_ ?_
          rotate_left
          · intro W hW; go_simp; try with_reducible rfl
          simp only [Act.put, List.setIfInBounds_toArray, List.set_cons_zero, List.set_cons_succ]
          refine regE_take (i := 6) (v := ?_) rfl (by as_aux_lemma => kernel_rfl) (by as_aux_lemma => kernel_rfl) (by as_aux_lemma => kernel_rfl) (fun _ _ _ h => h) (by rfl) ?_ ?_
          rotate_left
          · intro W hW; go_simp; try with_reducible rfl
          simp only [Act.put, List.setIfInBounds_toArray, List.set_cons_zero, List.set_cons_succ]
          refine regE_take (i := 7) (v := ?_) rfl (by as_aux_lemma => kernel_rfl) (by as_aux_lemma => kernel_rfl) (by as_aux_lemma => kernel_rfl) (fun _ _ _ h => h) (by rfl) ?_ ?_
          rotate_left
          · intro W hW; go_simp; try with_reducible rfl
          simp only [Act.put, List.setIfInBounds_toArray, List.set_cons_zero, List.set_cons_succ]
          refine regE_take (i := 8) (v := ?_) rfl (by as_aux_lemma => kernel_rfl) (by as_aux_lemma => kernel_rfl) (by as_aux_lemma => kernel_rfl) (fun _ _ _ h => h) (by rfl) ?_ ?_
          rotate_left
          · intro W hW; have s1 := FN.out _ (hX0.trans hW); go_simp; try with_reducible rfl
          simp only [Act.put, List.setIfInBounds_toArray, List.set_cons_zero, List.set_cons_succ]
          refine regE_take (i := 9) (v := ?_) rfl (by as_aux_lemma => kernel_rfl) (by as_aux_lemma => kernel_rfl) (by as_aux_lemma => kernel_rfl) (fun _ _ _ h => h) (by rfl) ?_ ?_
          rotate_left
          · intro W hW; go_simp; try with_reducible rfl
          simp only [Act.put, List.setIfInBounds_toArray, List.set_cons_zero, List.set_cons_succ]
          refine regE_take (i := 10) (v := ?_) rfl (by as_aux_lemma => kernel_rfl) (by as_aux_lemma => kernel_rfl) (by as_aux_lemma => kernel_rfl) (fun _ _ _ h => h) (by rfl) ?_ ?_
          rotate_left
          · intro W hW; go_simp; try with_reducible rfl
          simp only [Act.put, List.setIfInBounds_toArray, List.set_cons_zero, List.set_cons_succ]
          refine regE_take (i := 11) (v := ?_) rfl (by as_aux_lemma => kernel_rfl) (by as_aux_lemma => kernel_rfl) (by as_aux_lemma => kernel_rfl) (fun _ _ _ h => h) (by rfl) ?_ ?_
          rotate_left
          · intro W hW; go_simp; try with_reducible rfl
          simp only [Act.put, List.setIfInBounds_toArray, List.set_cons_zero, List.set_cons_succ]
          refine regE_take (i := 12) (v := ?_) rfl (by as_aux_lemma => kernel_rfl) (by as_aux_lemma => kernel_rfl) (by as_aux_lemma => kernel_rfl) (fun _ _ _ h => h) (by rfl) ?_ ?_
          rotate_left
          · intro W hW; go_simp; try with_reducible rfl
          simp only [Act.put, List.setIfInBounds_toArray, List.set_cons_zero, List.set_cons_succ]
          refine regE_take (i := 13) (v := ?_) rfl (by as_aux_lemma => kernel_rfl) (by as_aux_lemma => kernel_rfl) (by as_aux_lemma => kernel_rfl) (fun _ _ _ h => h) (by rfl) ?_ ?_
          rotate_left
          · intro W hW; go_simp; try with_reducible rfl
          simp only [Act.put, List.setIfInBounds_toArray, List.set_cons_zero, List.set_cons_succ]
          refine regE_take (i := 14) (v := ?_) rfl (by as_aux_lemma => kernel_rfl) (by as_aux_lemma => kernel_rfl) (by as_aux_lemma => kernel_rfl) (fun _ _ _ h => h) (by rfl) ?_ ?_
          rotate_left
          · intro W hW; have s1 := FL.out _ (hX0.trans hW); go_simp; try with_reducible rfl
          simp only [Act.put, List.setIfInBounds_toArray, List.set_cons_zero, List.set_cons_succ]
          refine regE_take (i := 15) (v := ?_) rfl (by as_aux_lemma => kernel_rfl) (by as_aux_lemma => kernel_rfl) (by as_aux_lemma => kernel_rfl) (fun _ _ _ h => h) (by rfl) ?_ ?_
          rotate_left
          · intro W hW; go_simp; try with_reducible rfl
          simp only [Act.put, List.setIfInBounds_toArray, List.set_cons_zero, List.set_cons_succ]
          refine regE_take (i := 16) (v := ?_) rfl (by as_aux_lemma => kernel_rfl) (by as_aux_lemma => kernel_rfl) (by as_aux_lemma => kernel_rfl) (fun _ _ _ h => h) (by rfl) ?_ ?_
          rotate_left
          · intro W hW; go_simp; try with_reducible rfl
          simp only [Act.put, List.setIfInBounds_toArray, List.set_cons_zero, List.set_cons_succ]
          refine regE_take (i := 17) (v := ?_) rfl (by as_aux_lemma => kernel_rfl) (by as_aux_lemma => kernel_rfl) (by as_aux_lemma => kernel_rfl) (fun _ _ _ h => h) (by rfl) ?_ ?_
          rotate_left
          · intro W hW; go_simp; try with_reducible rfl
          simp only [Act.put, List.setIfInBounds_toArray, List.set_cons_zero, List.set_cons_succ]
          refine regE_take (i := 18) (v := ?_) rfl (by as_aux_lemma => kernel_rfl) (by as_aux_lemma => kernel_rfl) (by as_aux_lemma => kernel_rfl) (fun _ _ _ h => h) (by rfl) ?_ ?_
          rotate_left
          · intro W hW; have s1 := FL.out _ (hX0.trans hW); go_simp; try with_reducible rfl
          simp only [Act.put, List.setIfInBounds_toArray, List.set_cons_zero, List.set_cons_succ]
          refine regE_take (i := 19) (v := ?_) rfl (by as_aux_lemma => kernel_rfl) (by as_aux_lemma => kernel_rfl) (by as_aux_lemma => kernel_rfl) (fun _ _ _ h => h) (by rfl) ?_ ?_
          rotate_left
          · intro W hW; go_simp; try with_reducible rfl
          simp only [Act.put, List.setIfInBounds_toArray, List.set_cons_zero, List.set_cons_succ]
          refine regE_take (i := 20) (v := ?_) rfl (by as_aux_lemma => kernel_rfl) (by as_aux_lemma => kernel_rfl) (by as_aux_lemma => kernel_rfl) (fun _ _ _ h => h) (by rfl) ?_ ?_
          rotate_left
          · intro W hW; go_simp; try with_reducible rfl
          simp only [Act.put, List.setIfInBounds_toArray, List.set_cons_zero, List.set_cons_succ]
          refine regE_take (i := 21) (v := ?_) rfl (by as_aux_lemma => kernel_rfl) (by as_aux_lemma => kernel_rfl) (by as_aux_lemma => kernel_rfl) (fun _ _ _ h => h) (by rfl) ?_ ?_
          rotate_left
          · intro W hW; go_simp; try with_reducible rfl
          simp only [Act.put, List.setIfInBounds_toArray, List.set_cons_zero, List.set_cons_succ]
          refine regE_take (i := 22) (v := ?_) rfl (by as_aux_lemma => kernel_rfl) (by as_aux_lemma => kernel_rfl) (by as_aux_lemma => kernel_rfl) (fun _ _ _ h => h) (by rfl) ?_ ?_
          rotate_left
          · intro W hW; go_simp; try with_reducible rfl
          simp only [Act.put, List.setIfInBounds_toArray, List.set_cons_zero, List.set_cons_succ]
          refine regE_take (i := 23) (v := ?_) rfl (by as_aux_lemma => kernel_rfl) (by as_aux_lemma => kernel_rfl) (by as_aux_lemma => kernel_rfl) (fun _ _ _ h => h) (by rfl) ?_ ?_
          rotate_left
          · intro W hW; go_simp; try with_reducible rfl
          simp only [Act.put, List.setIfInBounds_toArray, List.set_cons_zero, List.set_cons_succ]
          refine regE_do (i := 24) rfl (by as_aux_lemma => kernel_rfl) (fun K hK => ?_)
          rw [if_pos (by rfl)]
          go_simp
          refine (S.out _ _ _ (hBm.ext hR) hR.size).mono ?_
          rintro e wr1 ⟨Ax, cx, rfl, hQ, hXX⟩
          refine hK.out _ _ (hR.trans hXX) ?_
          clear hK K
          replace hR := hR.trans hXX
          clear hXX
          try simp only [Act.put, List.setIfInBounds_toArray, List.set_cons_zero, List.set_cons_succ]
          refine regE_take (i := 25) (v := ?_) rfl (by as_aux_lemma => kernel_rfl) (by as_aux_lemma => kernel_rfl) (by as_aux_lemma => kernel_rfl) (fun _ _ _ h => h) (by rfl) ?_ ?_
          rotate_left
          · intro W hW; go_simp; try with_reducible rfl
          simp only [Act.put, List.setIfInBounds_toArray, List.set_cons_zero, List.set_cons_succ]
          refine regE_take (i := 26) (v := ?_) rfl (by as_aux_lemma => kernel_rfl) (by as_aux_lemma => kernel_rfl) (by as_aux_lemma => kernel_rfl) (fun _ _ _ h => h) (by rfl) ?_ ?_
          rotate_left
          · intro W hW; go_simp; try with_reducible rfl
          simp only [Act.put, List.setIfInBounds_toArray, List.set_cons_zero, List.set_cons_succ]
          refine regE_take (i := 27) (v := ?_) rfl (by as_aux_lemma => kernel_rfl) (by as_aux_lemma => kernel_rfl) (by as_aux_lemma => kernel_rfl) (fun _ _ _ h => h) (by rfl) ?_ ?_
          rotate_left
          · intro W hW; go_simp; try with_reducible rfl
          simp only [Act.put, List.setIfInBounds_toArray, List.set_cons_zero, List.set_cons_succ]
          refine regE_take (i := 28) (v := ?_) rfl (by as_aux_lemma => kernel_rfl) (by as_aux_lemma => kernel_rfl) (by as_aux_lemma => kernel_rfl) (fun _ _ _ h => h) (by rfl) ?_ ?_
          rotate_left
          · intro W hW; go_simp; try with_reducible rfl
          simp only [Act.put, List.setIfInBounds_toArray, List.set_cons_zero, List.set_cons_succ]
          refine regE_take (i := 29) (v := ?_) rfl (by as_aux_lemma => kernel_rfl) (by as_aux_lemma => kernel_rfl) (by as_aux_lemma => kernel_rfl) (fun _ _ _ h => h) (by rfl) ?_ ?_
          rotate_left
          · intro W hW; go_simp; try with_reducible rfl
          simp only [Act.put, List.setIfInBounds_toArray, List.set_cons_zero, List.set_cons_succ]
          refine regE_done (by as_aux_lemma => kernel_rfl) ?_
          clear k1 k2 k3 k3b k4 k5 k5b k6 k7 k8 k9 k10
          have hMne : ((M : Int) == 0) = false := by rw [beq_eq_false_iff_ne]; omega
          have hX := hX0.trans hR
          have hapx := apart_new hO6 hQ (Nat.le_refl _)
          have hBx := Bytes.own hQ
          replace hO5 := own_ext hO5 hR
          replace hO6 := own_ext hO6 hR
          replace hC := hC.ext hR
          replace hQ := own_more hQ (base' := w1.heap.size) hX0.size
          have hap2 := hap.snoc (x := (Ax, M, cx)) hapx
          go_upto_region 19 with (at_builtin; refine wpList_appE T w1 _ _ rfl rfl (hX.alloc _) A5 i c5 hs rfl (hO5.alloc _) _ 1 1 [(Ax, M, cx)] rfl (Els.lit (E := eS) [(Ax, M, cx)] 25 1 rfl rfl (by omega)) (by omega) ?_; intro A7 c7 w7 hO7 hE7 hk7)
          have hC7 := ((hC.snoc (x := (Ax, M, cx)) hQ).alloc _).keep (hO5.alloc _) hk7
          have hO8 := own_keep (hO6.alloc (.cells #[.slice Ax M cx] 25)) (own_types (hO6.alloc (.cells #[.slice Ax M cx] 25)) (hO5.alloc (.cells #[.slice Ax M cx] 25)) (by decide)) hk7
          have hQ8 := own_keep (hQ.alloc (.cells #[.slice Ax M cx] 25)) (own_types (hQ.alloc (.cells #[.slice Ax M cx] 25)) (hO5.alloc (.cells #[.slice Ax M cx] 25)) (by decide)) hk7
          go_wp2_with (at_builtin; refine wpList_appBk w1 _ _ rfl rfl hE7 A6 N c6 (cat D) rfl hO8 Ax M cx y rfl (Bytes.own hQ8) (by omega) ?_; intro A9 c9 w9 hO9 hE9 hk9)
          obtain ⟨hC9, hap9⟩ := hC7.keep8 hap2 hk9
          have hO10 := own_keep hO7 (own_types hO7 hO8 (by decide)) hk9
          go_roundw
          case rel =>
            refine ⟨i + 1, A7, c7, hs ++ [(Ax, M, cx)], D ++ [y], A9, N + M, c9, rfl, rfl, by go_num, by omega, by simp [hDl], by omega, hO10, hC9, by rw [show cat (D ++ [y]) = cat D ++ y by simp [cat]]; exact hO9, hap9, HP.out.2.1, ?_, hE9⟩
            intro q d hd
            rcases List.mem_append.1 hd with hd | hd
            · exact hpf hlt d hd
            · rw [List.mem_singleton.1 hd]
              exact HP.out.1 q
          case measure => simp [intOf]; omega
      · obtain rfl : i = K := by omega
        have hcar := Cars.slices (Els.own hO5) hC
        have hall := Bytes.own hO6
        have hNl := hall.len
        obtain ⟨E1, hE1⟩ : ∃ x, sE (cat D) = x := ⟨_, rfl⟩
        obtain ⟨L1, hL1⟩ : ∃ x, sL (cat D) = x := ⟨_, rfl⟩
        obtain ⟨E3, hE3⟩ : ∃ x, sE b = x := ⟨_, rfl⟩
        obtain ⟨L3, hL3⟩ : ∃ x, sL b = x := ⟨_, rfl⟩
        obtain ⟨M3, hM3⟩ : ∃ x, L3.length = x := ⟨_, rfl⟩
        have hNb : N ≤ 20000 := by omega
        have hi20 : i ≤ 20 := by omega
        have HI20 := hide hi20
        clear hi20
        have S1 := hide (fun W h => tsplit_any A6 N c6 (cat D) W h (by omega) E1 L1 hE1 hL1)
        have S3 := hide (fun W h => tsplit_any A4 n4 c4 b W h (by omega) E3 L3 hE3 hL3)
        rw [hM3] at S3
        have hL0 : E3 ≠ 0 → M3 = 0 := by
          intro q
          rw [← hM3, ← hL3]
          unfold sL
          rw [if_neg (by rw [hE3]; exact q)]
          rfl
        have hbk : E3 = 0 → cat L3 = b ∧ ∀ i, ∀ hi : i < L3.length, oE L3[i] = 0 ∧ (0 < oN L3[i] → i + 1 = L3.length) := by
          intro q
          have := split_back b (by rw [hE3]; exact q)
          rw [hL3] at this
          exact this
        have hb1 := hb.len
        have HB3 := hide (And.intro hL0 hbk)
        clear hE3 hL3 hM3 hL0 hbk hO5 hO6 hC hap hpf d1 d2 d3 d4 hlt hi hN
        replace hb := hb.ext hX
        replace hE := hE.trans hX
        clear hX
        by_cases hK0 : i = 0
        · subst hK0
          have hD0 : D = [] := List.eq_nil_of_length_eq_zero hDl
          subst hD0
          obtain rfl : N = 0 := by rw [← hNl]; rfl
          obtain rfl : 2 = E1 := by rw [← hE1]; decide
          clear hE1 hL1 hNl hDl hCs hcar
          go_wp2_with fail
          refine (S1.out _ hall).mono ?_
          rintro e w2 ⟨A7, c7, rfl, _, hE2⟩
          replace hE := hE.trans hE2
          replace hb := hb.ext hE2
          clear hE2 S1 hall
          go_upto_region 35 with fail
          as_aux_lemma =>
            have HY := HB3.out
            by_cases hz : E3 = 0
            case neg =>
              have hM0 := HY.1 hz
              subst hM0
              have hne : (E3 != 0) = true := by simp [hz]
              go_wp2_with fail
              refine (S3.out _ hb).mono ?_
              rintro e w5 ⟨A9, c9, rfl, hl9, hE2⟩
              go_wp2_with fail
              go_ret
              exact ⟨rfl, hE.trans hE2⟩
            subst hz
            obtain ⟨hcatb, hops⟩ := HY.2 rfl
            have hbl := hb.len
            have hn3 : n4 ≤ 3000 := by have := HB.out; omega
            go_wp2_with fail
            refine (S3.out _ hb).mono ?_
            rintro e w5 ⟨A9, c9, rfl, hl9, hE2⟩
            replace hE := hE.trans hE2
            replace hb := hb.ext hE2
            clear hE2 S3
            go_wp2_with fail
            go_loopw [26, 27] (fun va vi wr => ∃ (j : Nat) (A' : Option Addr) (N' c' : Nat), va = .slice A' N' c' ∧ vi = .int .i64 (j : Int) ∧ j ≤ M3 ∧ wr.ownsRow w5.heap.size 5 1 (.slice A' N' c') N' ((cat (L3.take j)).map Bv) ∧ Ext w5 wr) (fun _ vi _ => M3 - (intOf vi).toNat)
            case atStart => exact ⟨0, none, 0, 0, rfl, rfl, Nat.zero_le _, World.ownsRow_nil _ _ _ _, Ext.refl _⟩
            case round =>
              obtain ⟨j, A', N', c', rfl, rfl, hj, hO, hX⟩ := hrel
              have hl3 := hl9.len
              have hm1 := hl9.2.1
              have hm2 := hl9.2.2.1
              have hNl' := (Bytes.own hO).len
              have hcb : ∀ q, q ≤ M3 → (cat (L3.take q)).length ≤ n4 := by
                intro q _
                have := congrArg List.length (cat_split L3 q)
                rw [List.length_append, hcatb, hbl] at this
                omega
              by_cases hlt : j < M3
              · obtain ⟨g9, o9, rfl, hg9, hget⟩ := hl9.get (by omega)
                obtain ⟨Aj, nj, cj, hcell0, hBj⟩ := hget j (by omega)
                have hcell := (hX.cell (p := ⟨g9, o9 + j, none⟩) hg9).trans hcell0
                have hBr := hBj.ext hX
                obtain ⟨p1, p2⟩ := hops j (by omega)
                have hsn := cat_snoc L3 j (by omega)
                obtain ⟨d, hd⟩ : ∃ d, L3[j]'(by omega) = d := ⟨_, rfl⟩
                rw [hd] at p1 p2 hsn hBr
                have hdl := hBr.len
                have hsz1 := hcb (j + 1) (by omega)
                rw [hsn, List.length_append, hdl, hNl'] at hsz1
                obtain ⟨P, hP⟩ : ∃ x, oP d = x := ⟨_, rfl⟩
                obtain ⟨C, hC⟩ : ∃ x, oC d = x := ⟨_, rfl⟩
                obtain ⟨T0, hT⟩ : ∃ x, oT d = x := ⟨_, rfl⟩
                obtain ⟨Z, hZ⟩ : ∃ x, oS d = x := ⟨_, rfl⟩
                obtain ⟨V, hV⟩ : ∃ x, oN d = x := ⟨_, rfl⟩
                obtain ⟨x, hx⟩ : ∃ x, oB d = x := ⟨_, rfl⟩
                obtain ⟨M, hM⟩ : ∃ M, x.length = M := ⟨_, rfl⟩
                have S9 := hide (fun W A c h => topen_B A nj c d W h (by omega) P C T0 Z V 0 x M hP hC hT hZ hV p1 hx hM)
                rw [hV] at p2
                have hcase : ¬ (0 : Int) < (V : Int) ∨ ((0 : Int) < (V : Int) ∧ ¬ (j : Int) + 1 < (M3 : Int)) := by
                  by_cases q : 0 < V
                  · have := p2 q
                    exact .inr ⟨by omega, by omega⟩
                  · exact .inl (by omega)
                have l1 : (j : Int) < (M3 : Int) := by omega
                have w1' : IntKind.i64.wrap ((j : Int) + 1) = (j : Int) + 1 := IntWalk.i64_in _ (by omega)
                have HQ := hide (And.intro hsn hsz1)
                clear hget hcell0 hBj p1 p2 hsn hd hdl hsz1 hP hC hT hZ hV hx hM hcb hops hcatb HY hlt hNl'
                go_wp2_with fail
                refine (S9.out _ _ _ hBr).mono ?_
                rintro e w6 ⟨Ab, cb, rfl, _, hE6⟩
                replace hO := (own_ext hO hE6).alloc (.cells #[.bool P, .int .i64 (C : Int), .int .i64 (T0 : Int), .int .i64 (Z : Int)] 62)
                have hcell6 := ((hE6.trans ((Ext.refl _).alloc (.cells #[.bool P, .int .i64 (C : Int), .int .i64 (T0 : Int), .int .i64 (Z : Int)] 62))).cell (p := ⟨g9, o9 + j, none⟩) (by have := hX.size; show g9 < _; omega)).trans hcell
                replace hX := (hX.trans hE6).alloc (.cells #[.bool P, .int .i64 (C : Int), .int .i64 (T0 : Int), .int .i64 (Z : Int)] 62)
                replace hBr := (hBr.ext hE6).alloc (.cells #[.bool P, .int .i64 (C : Int), .int .i64 (T0 : Int), .int .i64 (Z : Int)] 62)
                clear hcell hE6
                rcases hcase with h1 | ⟨h1, h2⟩
                all_goals
                  go_wp2_with (at_builtin; refine wpList_appB w5 _ _ rfl rfl hX A' N' c' _ rfl hO Aj nj cj d rfl hBr (by have := HQ.out.2; omega) ?_; intro A8' c8' w8 hO8 hE8)
                  go_roundw
                  case rel => exact ⟨j + 1, A8', N' + nj, c8', rfl, by go_num, by omega, by rw [HQ.out.1]; exact hO8, hE8⟩
                  case measure => simp [intOf]; omega
              · obtain rfl : j = M3 := by omega
                rw [List.take_of_length_le (by omega), hcatb] at hO
                have s1 := run_str (Bytes.own hO)
                have s2 := run_str (hb.ext hX)
                clear HY hops hcb
                go_wp2_with fail
                go_ret
                exact ⟨rfl, hE.trans hX⟩
        · obtain ⟨a1, a2, a3⟩ := all_split D hCs (fun e => hK0 (by rw [← hDl, e]; rfl))
          obtain rfl : 0 = E1 := by rw [← hE1, a1]
          obtain rfl : D = L1 := by rw [← hL1, a2]
          rw [hNl] at a3
          rw [hDl] at S1
          have hKz : ((i : Int) == 0) = false := by rw [beq_eq_false_iff_ne]; omega
          have hNp : (0 : Int) < (N : Int) := by omega
          obtain ⟨k, hk0⟩ : ∃ k, cut % N = k := ⟨_, rfl⟩
          have hkN : k < N := by rw [← hk0]; exact Nat.mod_lt _ a3
          have e1 : (cut : Int).tmod (N : Int) = (k : Int) := by rw [Int.tmod_eq_emod_of_nonneg (by omega), ← hk0]; rfl
          have e2 : (cut : Int) % (N : Int) = (k : Int) := by rw [← hk0]; rfl
          have e3 : IntKind.i64.wrap (cut : Int) = (cut : Int) := IntWalk.i64_in _ (by omega)
          have e4 : IntKind.i64.wrap (k : Int) = (k : Int) := IntWalk.i64_in _ (by omega)
          clear hE1 hL1 a1 a2 hk0
          obtain ⟨x, hx⟩ : ∃ x, (cat D).take k = x := ⟨_, rfl⟩
          obtain ⟨E2, hE2⟩ : ∃ y, sE x = y := ⟨_, rfl⟩
          obtain ⟨L2, hL2⟩ : ∃ y, sL x = y := ⟨_, rfl⟩
          obtain ⟨M2, hM2⟩ : ∃ y, L2.length = y := ⟨_, rfl⟩
          have hallk := hall.take (m := k) (by omega)
          rw [hx] at hallk
          have S2 := hide (fun W h => tsplit_any A6 k c6 x W h (by omega) E2 L2 hE2 hL2)
          rw [hM2] at S2
          have HX2 := hide (And.intro hx (And.intro hE2 (And.intro hL2 hM2)))
          have hN6 := hall.le
          have kc6 : (k : Int) ≤ (c6 : Int) := by omega
          clear hx hE2 hL2 hM2
          go_wp2_with fail
          refine (S1.out _ hall).mono ?_
          rintro e w2 ⟨A7, c7, rfl, hl7, hE2⟩
          replace hE := hE.trans hE2
          replace hb := hb.ext hE2
          replace hcar := hcar.ext hE2
          replace hallk := hallk.ext hE2
          clear hE2 S1 hall
          go_wp2_with fail
          refine (rlists_any _ _ _ D _ _ _ D _ hl7 hcar true (by simp)).mono ?_
          rintro e w3 ⟨rfl, hE2⟩
          replace hE := hE.trans hE2
          replace hb := hb.ext hE2
          replace hcar := hcar.ext hE2
          replace hallk := hallk.ext hE2
          clear hE2 hl7
          go_wp2_with fail
          refine (S2.out _ hallk).mono ?_
          rintro e w4 ⟨A8, c8, rfl, hl8, hE2⟩
          replace hE := hE.trans hE2
          replace hb := hb.ext hE2
          replace hcar := hcar.ext hE2
          clear hE2 S2 hallk
          go_wp2_with fail
          have HCar := hide hcar
          clear hcar hKz
          go_loopw [24, 25] (fun va vm wr => ∃ (j q : Nat), va = .int .i64 (q : Int) ∧ vm = .int .i64 (j : Int) ∧ j ≤ i ∧ (cat (D.take j)).length = q ∧ (j = 0 ∨ (cat (D.take (j - 1))).length < k) ∧ Ext w4 wr) (fun _ vm _ => i - (intOf vm).toNat)
          case atStart => exact ⟨0, 0, rfl, rfl, Nat.zero_le _, rfl, .inl rfl, Ext.refl _⟩
          case round =>
            obtain ⟨j, q, rfl, rfl, hj, hq, hq2, hX⟩ := hrel
            have hNl2 : (cat D).length = N := hNl
            have hqN : q ≤ N := by
              have := congrArg List.length (cat_split D j)
              rw [List.length_append, hq, hNl2] at this
              omega
            by_cases hlt : j < i ∧ q < k
            · obtain ⟨gc, oc, rfl, hgc, hget⟩ := HCar.out.get (by omega)
              obtain ⟨Aj, nj, cj, hcell0, hBj⟩ := hget j (by omega)
              have hcell := (hX.cell (p := ⟨gc, oc + j, none⟩) hgc).trans hcell0
              have hnx := cat_next D j (by omega)
              have hjl := hBj.len
              rw [hjl, hq] at hnx
              have hqN2 : q + nj ≤ N := by
                have := congrArg List.length (cat_split D (j + 1))
                rw [List.length_append, hnx, hNl2] at this
                omega
              have l1 : (j : Int) < (i : Int) := by omega
              have l2 : (q : Int) < (k : Int) := by omega
              have hq3 : (cat (D.take (j + 1 - 1))).length < k := by rw [Nat.add_sub_cancel, hq]; omega
              have w1' : IntKind.i64.wrap ((q : Int) + (nj : Int)) = ((q + nj : Nat) : Int) := by rw [IntWalk.i64_in _ (by omega)]; rfl
              have hji : j + 1 ≤ i := by omega
              have hi20 := HI20.out
              have HQ := hide (And.intro hnx (And.intro hq3 hji))
              clear hget hcell0 hBj hnx hjl hq3 hq hq2 hji
              go_wp2_with fail
              go_roundw
              case rel => exact ⟨j + 1, q + nj, by go_num, by go_num, HQ.out.2.2, HQ.out.1, .inr HQ.out.2.1, hX⟩
              case measure => have := HQ.out.2.2; simp [intOf]; omega
            · have hkq : k ≤ q := by
                by_cases h1 : j < i
                · omega
                · obtain rfl : j = i := by omega
                  rw [List.take_of_length_le (by omega), hNl2] at hq
                  omega
              obtain ⟨hx, hE2, hL2, hM2⟩ := HX2.out
              have hcase : (j = i ∧ ¬ (j : Int) < (i : Int)) ∨ ((j : Int) < (i : Int) ∧ ¬ (q : Int) < (k : Int)) := by omega
              have hfin : (q = k ∧ k = 0) ∨ (q = k ∧ 0 < k ∧ E2 = 0 ∧ M2 = j) ∨ (q ≠ k ∧ E2 ≠ 0) := by
                by_cases h1 : q = k
                · by_cases h2 : k = 0
                  · exact .inl ⟨h1, h2⟩
                  · obtain ⟨c1, c2⟩ := cut_at D hCs j k (by omega) (by omega)
                    rw [hx, hE2] at c1
                    rw [hx, hL2] at c2
                    refine .inr (.inl ⟨h1, by omega, c1, ?_⟩)
                    rw [← hM2, c2, List.length_take]
                    omega
                · obtain ⟨j, rfl⟩ : ∃ j', j = j' + 1 := by
                    cases j with
                    | zero => simp [cat] at hq; omega
                    | succ j => exact ⟨j, rfl⟩
                  have h3 : (cat (D.take j)).length < k := by
                    rcases hq2 with h | h
                    · omega
                    · exact h
                  have := cut_in D hCs j k (by omega) h3 (by omega)
                  rw [hx, hE2] at this
                  exact .inr (.inr ⟨h1, this⟩)
              have hfin2 : (((q : Int) == (k : Int)) = true ∧ ¬ (0 : Int) < (k : Int) ∧ ((q : Int) != (k : Int)) = false) ∨ (((q : Int) == (k : Int)) = true ∧ (0 : Int) < (k : Int) ∧ E2 = 0 ∧ ((M2 : Int) != (j : Int)) = false ∧ ((q : Int) != (k : Int)) = false) ∨ (((q : Int) == (k : Int)) = false ∧ ((q : Int) != (k : Int)) = true ∧ (E2 == 0) = false) := by
                rcases hfin with ⟨h1, h2⟩ | ⟨h1, h2, h3, h4⟩ | ⟨h1, h2⟩
                · exact .inl ⟨by rw [beq_iff_eq]; omega, by omega, by rw [bne_eq_false_iff_eq]; omega⟩
                · exact .inr (.inl ⟨by rw [beq_iff_eq]; omega, by omega, h3, by rw [bne_eq_false_iff_eq]; omega, by rw [bne_eq_false_iff_eq]; omega⟩)
                · exact .inr (.inr ⟨by rw [beq_eq_false_iff_ne]; omega, by rw [bne_iff_ne]; omega, beq_eq_false_iff_ne.2 h2⟩)
              clear hfin hx hE2 hL2 hM2 hq hq2 hlt HX2
              replace hb := hb.ext hX
              replace hE := hE.trans hX
              clear hX hqN hkq hkN hNp a3 hl8 kc6 hN6 e1 e2 e3 e4 hNl2 hNl HCar hCs
              rcases hcase with ⟨rfl, l1⟩ | ⟨l1, l2⟩
              all_goals
                go_upto_region 33 with fail
                go_cut [195] (fun c wx => c = .bool false ∧ wr = wx)
                case first =>
                  rcases hfin2 with ⟨g1, g2, g3⟩ | ⟨g1, g2, rfl, g4, g5⟩ | ⟨g1, g2, g3⟩
                  all_goals
                    go_wp2_with fail
                    go_meet
                    case rel => exact ⟨rfl, rfl⟩
                case rest =>
                obtain ⟨rfl, rfl⟩ := hcut
                go_upto_region 35 with fail
                as_aux_lemma =>
                  have HY := HB3.out
                  by_cases hz : E3 = 0
                  case neg =>
                    have hM0 := HY.1 hz
                    subst hM0
                    have hne : (E3 != 0) = true := by simp [hz]
                    go_wp2_with fail
                    refine (S3.out _ hb).mono ?_
                    rintro e w5 ⟨A9, c9, rfl, hl9, hE2⟩
                    go_wp2_with fail
                    go_ret
                    exact ⟨rfl, hE.trans hE2⟩
                  subst hz
                  obtain ⟨hcatb, hops⟩ := HY.2 rfl
                  have hbl := hb.len
                  have hn3 : n4 ≤ 3000 := by have := HB.out; omega
                  go_wp2_with fail
                  refine (S3.out _ hb).mono ?_
                  rintro e w5 ⟨A9, c9, rfl, hl9, hE2⟩
                  replace hE := hE.trans hE2
                  replace hb := hb.ext hE2
                  clear hE2 S3
                  go_wp2_with fail
                  go_loopw [26, 27] (fun va vi wr => ∃ (j : Nat) (A' : Option Addr) (N' c' : Nat), va = .slice A' N' c' ∧ vi = .int .i64 (j : Int) ∧ j ≤ M3 ∧ wr.ownsRow w5.heap.size 5 1 (.slice A' N' c') N' ((cat (L3.take j)).map Bv) ∧ Ext w5 wr) (fun _ vi _ => M3 - (intOf vi).toNat)
                  case atStart => exact ⟨0, none, 0, 0, rfl, rfl, Nat.zero_le _, World.ownsRow_nil _ _ _ _, Ext.refl _⟩
                  case round =>
                    obtain ⟨j, A', N', c', rfl, rfl, hj, hO, hX⟩ := hrel
                    have hl3 := hl9.len
                    have hm1 := hl9.2.1
                    have hm2 := hl9.2.2.1
                    have hNl' := (Bytes.own hO).len
                    have hcb : ∀ q, q ≤ M3 → (cat (L3.take q)).length ≤ n4 := by
                      intro q _
                      have := congrArg List.length (cat_split L3 q)
                      rw [List.length_append, hcatb, hbl] at this
                      omega
                    by_cases hlt : j < M3
                    · obtain ⟨g9, o9, rfl, hg9, hget⟩ := hl9.get (by omega)
                      obtain ⟨Aj, nj, cj, hcell0, hBj⟩ := hget j (by omega)
                      have hcell := (hX.cell (p := ⟨g9, o9 + j, none⟩) hg9).trans hcell0
                      have hBr := hBj.ext hX
                      obtain ⟨p1, p2⟩ := hops j (by omega)
                      have hsn := cat_snoc L3 j (by omega)
                      obtain ⟨d, hd⟩ : ∃ d, L3[j]'(by omega) = d := ⟨_, rfl⟩
                      rw [hd] at p1 p2 hsn hBr
                      have hdl := hBr.len
                      have hsz1 := hcb (j + 1) (by omega)
                      rw [hsn, List.length_append, hdl, hNl'] at hsz1
                      obtain ⟨P, hP⟩ : ∃ x, oP d = x := ⟨_, rfl⟩
                      obtain ⟨C, hC⟩ : ∃ x, oC d = x := ⟨_, rfl⟩
                      obtain ⟨T0, hT⟩ : ∃ x, oT d = x := ⟨_, rfl⟩
                      obtain ⟨Z, hZ⟩ : ∃ x, oS d = x := ⟨_, rfl⟩
                      obtain ⟨V, hV⟩ : ∃ x, oN d = x := ⟨_, rfl⟩
                      obtain ⟨x, hx⟩ : ∃ x, oB d = x := ⟨_, rfl⟩
                      obtain ⟨M, hM⟩ : ∃ M, x.length = M := ⟨_, rfl⟩
                      have S9 := hide (fun W A c h => topen_B A nj c d W h (by omega) P C T0 Z V 0 x M hP hC hT hZ hV p1 hx hM)
                      rw [hV] at p2
                      have hcase : ¬ (0 : Int) < (V : Int) ∨ ((0 : Int) < (V : Int) ∧ ¬ (j : Int) + 1 < (M3 : Int)) := by
                        by_cases q : 0 < V
                        · have := p2 q
                          exact .inr ⟨by omega, by omega⟩
                        · exact .inl (by omega)
                      have l1 : (j : Int) < (M3 : Int) := by omega
                      have w1' : IntKind.i64.wrap ((j : Int) + 1) = (j : Int) + 1 := IntWalk.i64_in _ (by omega)
                      have HQ := hide (And.intro hsn hsz1)
                      clear hget hcell0 hBj p1 p2 hsn hd hdl hsz1 hP hC hT hZ hV hx hM hcb hops hcatb HY hlt hNl'
                      go_wp2_with fail
                      refine (S9.out _ _ _ hBr).mono ?_
                      rintro e w6 ⟨Ab, cb, rfl, _, hE6⟩
                      replace hO := (own_ext hO hE6).alloc (.cells #[.bool P, .int .i64 (C : Int), .int .i64 (T0 : Int), .int .i64 (Z : Int)] 62)
                      have hcell6 := ((hE6.trans ((Ext.refl _).alloc (.cells #[.bool P, .int .i64 (C : Int), .int .i64 (T0 : Int), .int .i64 (Z : Int)] 62))).cell (p := ⟨g9, o9 + j, none⟩) (by have := hX.size; show g9 < _; omega)).trans hcell
                      replace hX := (hX.trans hE6).alloc (.cells #[.bool P, .int .i64 (C : Int), .int .i64 (T0 : Int), .int .i64 (Z : Int)] 62)
                      replace hBr := (hBr.ext hE6).alloc (.cells #[.bool P, .int .i64 (C : Int), .int .i64 (T0 : Int), .int .i64 (Z : Int)] 62)
                      clear hcell hE6
                      rcases hcase with h1 | ⟨h1, h2⟩
                      all_goals
                        go_wp2_with (at_builtin; refine wpList_appB w5 _ _ rfl rfl hX A' N' c' _ rfl hO Aj nj cj d rfl hBr (by have := HQ.out.2; omega) ?_; intro A8' c8' w8 hO8 hE8)
                        go_roundw
                        case rel => exact ⟨j + 1, A8', N' + nj, c8', rfl, by go_num, by omega, by rw [HQ.out.1]; exact hO8, hE8⟩
                        case measure => simp [intOf]; omega
                    · obtain rfl : j = M3 := by omega
                      rw [List.take_of_length_le (by omega), hcatb] at hO
                      have s1 := run_str (Bytes.own hO)
                      have s2 := run_str (hb.ext hX)
                      clear HY hops hcb
                      go_wp2_with fail
                      go_ret
                      exact ⟨rfl, hE.trans hX⟩
end Go.Proofs.Ythepndimhiieiaa

/- The document's answer for layers 3 and 11: Trail, Add, May, Close, Lists. -/
import Derived.Test.YthepndimhiieiaaTrainD
import Derived.Test.YthepndimhiieiaaPlainTrainB
import Derived.Test.YthepndimhiieiaaComRef
import Derived.Test.YthepndimhiieiaaAppB
namespace Go.Proofs.Ythepndimhiieiaa
open Go.RowKit
set_option maxRecDepth 100000 in
set_option maxHeartbeats 1000000 in
theorem rtrail_any (A : Option Addr) (n c : Nat) (b : List UInt8) (w : World) (hb : Bytes w A n c b) (V : Nat) (hV : tlV b = V) : Calls Try.prog 79 #[.slice A n c] w fun e w' => e = .returned (.int .i64 (V : Int)) ∧ w = w' := by
  have hlen := hb.len
  by_cases h0 : n = 0
  · subst h0
    have hE : tlE b = 5 := by unfold tlE; rw [if_pos (by omega)]
    obtain rfl : 0 = V := by rw [← hV]; unfold tlV; rw [hE]; rfl
    clear hV hE
    go_enter Try.func79, Try.ntmps79
    go_wp2_with fail
    go_ret
    exact ⟨rfl, rfl⟩
  · obtain ⟨g, o, rfl, hg⟩ := hb.plain (by omega)
    have hc := hb.cellK (n - 1) (by omega)
    obtain ⟨k, hk⟩ : ∃ k, tlN b = k := ⟨_, rfl⟩
    have hk2 := tlN_lt b
    have hkd : (b.getD (n - 1) 0).toNat = k := by rw [← hk, tlN, hlen]
    rw [hkd] at hc
    rw [hk] at hk2
    have e4 : ((n : Int) - 1).toNat = n - 1 := by omega
    have i1 : (0 : Int) ≤ (n : Int) - 1 := by omega
    have i2 : (n : Int) - 1 < (n : Int) := by omega
    have hnc := hb.le
    have hcm := hb.reach
    have hn0 : ((n : Int) == 0) = false := beq_eq_false_iff_ne.2 (by omega)
    have hcase : ((n : Int) < (k : Int) ∧ V = 0) ∨ (¬ (n : Int) < (k : Int) ∧ V = k) := by
      by_cases h1 : k = 0
      · have e : tlE b = 5 := by unfold tlE; rw [if_pos (by omega)]
        exact .inr ⟨by omega, by rw [← hV, tlV, e, h1]; rfl⟩
      · by_cases h2 : n < k
        · have e : tlE b = 5 := by unfold tlE; rw [if_pos (by omega)]
          exact .inl ⟨by omega, by rw [← hV, tlV, e]; rfl⟩
        · have e : tlE b = 0 := by unfold tlE; rw [if_neg (by omega)]
          exact .inr ⟨by omega, by rw [← hV, tlV, if_pos e, hk]⟩
    clear hV hk hkd hlen
    rcases hcase with ⟨q0, rfl⟩ | ⟨q0, rfl⟩
    all_goals
      go_enter Try.func79, Try.ntmps79
      go_wp2_with fail
      go_ret
      exact ⟨rfl, rfl⟩
theorem snoc_byte (w : World) (x : Int) (q : UInt8) (hq : x = (q.toNat : Int)) : Bytes (w.alloc (.cells #[.int .u8 x] 5)) (some ⟨w.heap.size, 0, none⟩) 1 1 [q] := by
  subst hq
  exact Bytes.lit (w := w) (vs := [.int .u8 (q.toNat : Int)]) [q] 5 1 rfl rfl (by omega)
set_option maxRecDepth 100000 in
set_option maxHeartbeats 1000000 in
theorem radd_ok (A : Option Addr) (n c : Nat) (b : List UInt8) (t : Nat) (h1 : 1 ≤ t) (h2 : t ≤ 255) (hn : n ≤ 1000000) (w : World) (hb : Bytes w A n c b) (y : List UInt8) (hy : b ++ tlBytes t = y) : Calls Try.prog 85 #[.slice A n c, .int .i64 (t : Int)] w fun e w' => ∃ A' c', e = .returned (.slice A' (n + t) c') ∧ Bytes w' A' (n + t) c' y ∧ Ext w w' := by
  have hyy : (b ++ List.replicate (t - 1) 0) ++ [UInt8.ofNat t] = y := by rw [← hy, tlBytes, if_neg (by omega), List.append_assoc]
  have HY := hide hyy
  have km : (t : Int) % 256 = (t : Int) := by omega
  clear hy hyy
  go_enter Try.func85, Try.ntmps85
  go_wp2_with (at_builtin; refine wpList_appB w _ _ rfl rfl ((Ext.refl _).alloc _) _ 0 0 _ rfl (own_empty w) A n c b rfl (hb.alloc _) (by omega) ?_; intro A3 c3 w3 O3 hE3; rw [Nat.zero_add, List.nil_append] at O3)
  go_loopw [5, 6] (fun v i wr => ∃ (j : Nat) (A' : Option Addr) (c' : Nat), 1 ≤ j ∧ j ≤ t ∧ i = .int .i64 (j : Int) ∧ v = .slice A' (n + (j - 1)) c' ∧ wr.ownsRow w.heap.size 5 1 (.slice A' (n + (j - 1)) c') (n + (j - 1)) ((b ++ List.replicate (j - 1) 0).map Bv) ∧ Ext w wr) (fun _ i _ => t - (intOf i).toNat)
  case atStart => exact ⟨1, A3, c3, Nat.le_refl _, h1, rfl, rfl, by simpa using O3, hE3⟩
  case round =>
    clear O3 hE3
    obtain ⟨j, A', c', hj1, hj, rfl, rfl, hO, hX⟩ := hrel
    by_cases hlt : j < t
    · have hr : (b ++ List.replicate (j - 1) (0 : UInt8)) ++ [0] = b ++ List.replicate (j + 1 - 1) 0 := by
        rw [List.append_assoc, show j + 1 - 1 = (j - 1) + 1 by omega, List.replicate_succ']
      have hl : n + (j - 1) + 1 = n + (j + 1 - 1) := by omega
      have HR := hide (And.intro hr hl)
      clear hr hl
      go_wp2_with (at_builtin; refine wpList_appB w _ _ rfl rfl (hX.alloc _) A' (n + (j - 1)) c' _ rfl (own_ext hO ((Ext.refl _).alloc _)) _ 1 1 [0] rfl (snoc_byte _ 0 0 rfl) (by omega) ?_; intro A2 c2 w5 hO2 hE5)
      rw [HR.out.1, HR.out.2] at hO2
      have e1 : n + (j - 1) + 1 = n + (j + 1 - 1) := HR.out.2
      rw [e1]
      go_roundw
      case rel => exact ⟨j + 1, A2, c2, by omega, by omega, by go_num, rfl, hO2, hE5⟩
      case measure => simp [intOf]; omega
    · obtain rfl : j = t := by omega
      have hl : n + (j - 1) + 1 = n + j := by omega
      have HR := hide hl
      clear hl
      go_wp2_with (at_builtin; refine wpList_appB w _ _ rfl rfl (hX.alloc _) A' (n + (j - 1)) c' _ rfl (own_ext hO ((Ext.refl _).alloc _)) _ 1 1 [UInt8.ofNat j] rfl (snoc_byte _ _ (UInt8.ofNat j) (by rw [UInt8.toNat_ofNat']; omega)) (by omega) ?_; intro A2 c2 w5 hO2 hE5)
      rw [HY.out, HR.out] at hO2
      rw [HR.out]
      go_ret
      exact ⟨A2, c2, rfl, Bytes.own hO2, hE5⟩
set_option maxRecDepth 100000 in
set_option maxHeartbeats 2000000 in
theorem rmay_any (k ct t : Int) (A : Option Addr) (n c : Nat) (w : World) (hn : n ≤ 1000000) (r : Bool) (h : clOK k ct n t = r) : Calls Try.prog 38 #[.int .i64 k, .int .i64 ct, .slice A n c, .int .i64 t] w fun e w' => e = .returned (.bool r) ∧ Ext w w' := by
  have hcase : (t < 0 ∧ r = false) ∨ (¬ t < 0 ∧ 252 < t ∧ r = false) ∨ (¬ t < 0 ∧ ¬ 252 < t ∧ (t % 4 != 0) = true ∧ r = false) ∨ (¬ t < 0 ∧ ¬ 252 < t ∧ (t % 4 != 0) = false ∧ ((n : Int) % 4 != 0) = true ∧ r = false) ∨ (¬ t < 0 ∧ ¬ 252 < t ∧ (t % 4 != 0) = false ∧ ((n : Int) % 4 != 0) = false ∧ cRight ct k (4 + n + t) = r) := by
    have hf : ∀ (hq : ¬ (0 ≤ t ∧ t ≤ 252 ∧ t % 4 = 0 ∧ n % 4 = 0)), r = false := fun hq => by rw [← h]; unfold clOK; rw [decide_eq_false hq]; rfl
    by_cases a1 : t < 0
    · exact .inl ⟨a1, hf (by omega)⟩
    by_cases a2 : 252 < t
    · exact .inr (.inl ⟨a1, a2, hf (by omega)⟩)
    by_cases a3 : t % 4 = 0
    · by_cases a4 : (n : Int) % 4 = 0
      · refine .inr (.inr (.inr (.inr ⟨a1, a2, by simp [a3], by simp [a4], ?_⟩)))
        unfold clOK at h
        rwa [decide_eq_true (by omega), Bool.true_and] at h
      · exact .inr (.inr (.inr (.inl ⟨a1, a2, by simp [a3], by simp [a4], hf (by omega)⟩)))
    · exact .inr (.inr (.inl ⟨a1, a2, by simp [a3], hf (by omega)⟩))
  have j1 : IntKind.i64.wrap (4 + (n : Int)) = 4 + (n : Int) := IntWalk.i64_in _ (by omega)
  clear h
  rcases hcase with ⟨q1, rfl⟩ | ⟨q1, q2, rfl⟩ | ⟨q1, q2, q3, rfl⟩ | ⟨q1, q2, q3, q4, rfl⟩ | ⟨q1, q2, q3, q4, q5⟩
  · go_enter Try.func38, Try.ntmps38
    go_wp2_with fail
    go_ret
    exact ⟨rfl, Ext.refl _⟩
  · go_enter Try.func38, Try.ntmps38
    go_wp2_with fail
    go_ret
    exact ⟨rfl, Ext.refl _⟩
  · have g1 : t.tmod 4 = t % 4 := Int.tmod_eq_emod_of_nonneg (by omega)
    go_enter Try.func38, Try.ntmps38
    go_wp2_with fail
    go_ret
    exact ⟨rfl, Ext.refl _⟩
  · have g1 : t.tmod 4 = t % 4 := Int.tmod_eq_emod_of_nonneg (by omega)
    go_enter Try.func38, Try.ntmps38
    go_wp2_with fail
    go_ret
    exact ⟨rfl, Ext.refl _⟩
  · have g1 : t.tmod 4 = t % 4 := Int.tmod_eq_emod_of_nonneg (by omega)
    have j2 : IntKind.i64.wrap (4 + (n : Int) + t) = 4 + (n : Int) + t := IntWalk.i64_in _ (by omega)
    have S := hide (fun W p => rright_any p ct k (4 + n + t) W)
    rw [q5] at S
    clear q5
    go_enter Try.func38, Try.ntmps38
    go_wp2_with fail
    refine (S.out _ _).mono ?_
    rintro e w1 ⟨rfl, hE⟩
    go_wp2_with fail
    go_ret
    exact ⟨rfl, hE⟩
set_option maxHeartbeats 1000000 in
theorem rwrite_O (p : Bool) (c t s : Int) (w : World) (h : cRight c t s = true) : Calls Try.prog 84 #[.agg #[.bool p, .int .i64 c, .int .i64 t, .int .i64 s]] w fun e w' =>
    ∃ A k, e = .returned (.slice A 4 k) ∧ w'.ownsRow w.heap.size 5 1 (.slice A 4 k) 4 ((cBytes p c t s).map Bv) ∧ Ext w w' := by
  obtain ⟨r1, r2, r3, r4, r5, r6, r7⟩ := cRight_zero h
  clear h
  obtain ⟨c, rfl⟩ := Int.eq_ofNat_of_zero_le r1
  obtain ⟨t, rfl⟩ := Int.eq_ofNat_of_zero_le r3
  obtain ⟨k, rfl⟩ : ∃ k : Nat, s = 4 * ((k : Int) + 1) := ⟨(s / 4 - 1).toNat, by omega⟩
  have hcb : ∀ p, cBytes p c t (4 * ((k : Int) + 1)) = [UInt8.ofNat (128 + c + padBit p), UInt8.ofNat t, UInt8.ofNat (k / 256), UInt8.ofNat k] := by
    intro p
    unfold cBytes
    rw [show (4 * ((k : Int) + 1) / 4 - 1).toNat = k by omega]
    simp [be]
  have HCB := hide hcb
  clear hcb
  cases p
  · go_enter Try.func84, Try.ntmps84
    go_wp2
    go_ret
    rw [HCB.out]
    refine ⟨_, _, rfl, ?_, ((Ext.refl _).alloc _).alloc _⟩
    have hv : ([UInt8.ofNat (128 + c + padBit false), UInt8.ofNat t, UInt8.ofNat (k / 256), UInt8.ofNat k] : List UInt8).map Bv = [.int .u8 (128 + (c : Int)), .int .u8 (t : Int), .int .u8 ((k : Int) / 256), .int .u8 ((k : Int) % 256)] := by simp [Bv, padBit]; omega
    rw [hv]
    have hl := World.ownsRow_lit (base := w.heap.size + 1) (e := 5) (size := 1) (w.alloc (.cells #[.bool false, .int .i64 (c : Int), .int .i64 (t : Int), .int .i64 (4 * ((k : Int) + 1))] 62)) #[.int .u8 (128 + (c : Int)), .int .u8 (t : Int), .int .u8 ((k : Int) / 256), .int .u8 ((k : Int) % 256)] 4 (by simp) (by unfold maxLen; omega) (by simp)
    rw [World.size_alloc] at hl
    exact own_more hl (by omega)
  · go_enter Try.func84, Try.ntmps84
    go_wp2
    go_ret
    rw [HCB.out]
    refine ⟨_, _, rfl, ?_, ((Ext.refl _).alloc _).alloc _⟩
    have hv : ([UInt8.ofNat (128 + c + padBit true), UInt8.ofNat t, UInt8.ofNat (k / 256), UInt8.ofNat k] : List UInt8).map Bv = [.int .u8 (128 + (c : Int) + 32), .int .u8 (t : Int), .int .u8 ((k : Int) / 256), .int .u8 ((k : Int) % 256)] := by simp [Bv, padBit]; omega
    rw [hv]
    have hl := World.ownsRow_lit (base := w.heap.size + 1) (e := 5) (size := 1) (w.alloc (.cells #[.bool true, .int .i64 (c : Int), .int .i64 (t : Int), .int .i64 (4 * ((k : Int) + 1))] 62)) #[.int .u8 (128 + (c : Int) + 32), .int .u8 (t : Int), .int .u8 ((k : Int) / 256), .int .u8 ((k : Int) % 256)] 4 (by simp) (by unfold maxLen; omega) (by simp)
    rw [World.size_alloc] at hl
    exact own_more hl (by omega)
set_option maxRecDepth 100000 in
set_option maxHeartbeats 2000000 in
theorem rclose_ok (k ct : Int) (t : Nat) (A : Option Addr) (n c : Nat) (body : List UInt8) (w : World) (hb : Bytes w A n c body) (h : clOK k ct n t = true) (y : List UInt8) (hy : clBytes k ct body t = y) : Calls Try.prog 39 #[.int .i64 k, .int .i64 ct, .slice A n c, .int .i64 t] w fun e w' => ∃ A' c', e = .returned (.slice A' (4 + n + t) c') ∧ Bytes w' A' (4 + n + t) c' y ∧ Ext w w' := by
  have hlen := hb.len
  obtain ⟨⟨q1, q2, q3, q4⟩, hr⟩ := cl_ok h
  obtain ⟨_, _, _, _, _, r6, _⟩ := cRight_zero hr
  have S := fun W => rwrite_O (decide (0 < t)) ct k (4 + n + t) W hr
  have hcb := (cB_parts (p := decide (0 < t)) hr []).1
  have j1 : IntKind.i64.wrap (4 + (n : Int)) = 4 + (n : Int) := IntWalk.i64_in _ (by omega)
  have j2 : IntKind.i64.wrap (4 + (n : Int) + (t : Int)) = 4 + (n : Int) + (t : Int) := IntWalk.i64_in _ (by omega)
  unfold clBytes at hy
  rw [hlen] at hy
  obtain ⟨H, hH⟩ : ∃ H, cBytes (decide (0 < t)) ct k (4 + n + t) = H := ⟨_, rfl⟩
  rw [hH] at S hy
  by_cases h0 : t = 0
  · subst h0
    obtain rfl : H ++ body = y := by rw [← hy]; simp [tlBytes]
    have e0 : (4 + (n : Int) + ((0 : Nat) : Int)) = 4 + (n : Int) := by omega
    have e1 : decide (0 < 0) = false := rfl
    rw [e0, e1] at S
    have S := hide S
    clear hr hcb hH hy q1 q2 q3 q4 hlen e0 e1
    go_enter Try.func39, Try.ntmps39
    go_wp2_with fail
    refine (S.out _).mono ?_
    rintro e w1 ⟨A2, c2, rfl, hO, hE⟩
    replace hb := hb.ext hE
    go_wp2_with (at_builtin; refine wpList_appB w _ _ rfl rfl hE A2 4 c2 H rfl hO A n c body rfl hb (by omega) ?_; intro A3 c3 w3 O3 hE3)
    go_ret
    exact ⟨A3, c3, rfl, Bytes.own O3, hE3⟩
  · have g5 : (0 : Int) < (t : Int) := by omega
    have PA := hide (fun W A c h => radd_ok A (4 + n) c (H ++ body) t (by omega) (by omega) (by omega) W h y (by rw [← hy]; simp))
    have S := hide S
    clear hr hcb hH hy q1 q2 q3 q4 hlen
    go_enter Try.func39, Try.ntmps39
    go_wp2_with fail
    refine (S.out _).mono ?_
    rintro e w1 ⟨A2, c2, rfl, hO, hE⟩
    replace hb := hb.ext hE
    go_wp2_with (at_builtin; refine wpList_appB w _ _ rfl rfl hE A2 4 c2 H rfl hO A n c body rfl hb (by omega) ?_; intro A3 c3 w3 O3 hE3)
    refine (PA.out _ _ _ (Bytes.own O3)).mono ?_
    rintro e w4 ⟨A4, c4, rfl, hB4, hE4⟩
    go_wp2_with fail
    go_ret
    exact ⟨A4, c4, rfl, hB4, hE3.trans hE4⟩
set_option maxRecDepth 100000 in
set_option maxHeartbeats 2000000 in
theorem rlists_any (A : Option Addr) (n c : Nat) (l : List (List UInt8)) (A2 : Option Addr) (n2 c2 : Nat) (m : List (List UInt8)) (w : World) (h : Slices w A n c l) (h2 : Slices w A2 n2 c2 m) (r : Bool) (hr : decide (l = m) = r) :
    Calls Try.prog 42 #[.slice A n c, .slice A2 n2 c2] w fun e w' => e = .returned (.bool r) ∧ Ext w w' := by
  have hlen := h.len
  have hlen2 := h2.len
  have hnc := h.2.1
  have hcm := h.2.2.1
  by_cases hne : n = n2
  · subst hne
    go_enter Try.func42, Try.ntmps42
    go_wp2_with fail
    go_loopw [5] (fun i wr => ∃ (j : Nat), j ≤ n ∧ i = .int .i64 j ∧ l.take j = m.take j ∧ Ext w wr) (fun i _ => n - (intOf i).toNat)
    case atStart => exact ⟨0, Nat.zero_le _, rfl, rfl, Ext.refl _⟩
    case round =>
      obtain ⟨j, hj, rfl, htk, hE⟩ := hrel
      by_cases hlt : j < n
      · have hjl : j < l.length := by omega
        have hjm : j < m.length := by omega
        obtain ⟨g, o, rfl, hg, hcell⟩ := h.get (by omega)
        obtain ⟨g2, o2, rfl, hg2, hcell2⟩ := h2.get (by omega)
        obtain ⟨Ai, ni, ci, hc0, hB0⟩ := hcell j hjl
        obtain ⟨Aj, nj, cj, hc1, hB1⟩ := hcell2 j hjm
        have hlj : (j : Int) < (n : Int) := by omega
        have htg : l[j] = m[j] → l.take (j + 1) = m.take (j + 1) := fun e => by
          rw [List.take_succ_eq_append_getElem hjl, List.take_succ_eq_append_getElem hjm, htk, e]
        have hback : l = m → l[j] = m[j] := fun e => by subst e; rfl
        generalize l[j] = x at hB0 htg hback
        generalize m[j] = y at hB1 htg hback
        clear hcell hcell2 htk
        have hE0 := hE
        clear hE
        by_cases hxy : x = y
        · have hb : (x == y) = true := beq_iff_eq.2 hxy
          go_upto_region 6 with fail
          refine regE_start_at (hE0) (by kernel_rfl) ?_
          have hR := (hE0).drew
          generalize hgw : (wr).drew = wr0 at *
          clear hgw
          refine regE_take (i := 0) (v := ?_) rfl (by kernel_rfl) (by kernel_rfl) (by kernel_rfl) (fun _ _ _ h => h) (by rfl) ?_ ?_
          rotate_left
          · intro W hW; go_simp; try with_reducible rfl
          simp only [Act.put, List.setIfInBounds_toArray, List.set_cons_zero, List.set_cons_succ]
          refine regE_take (i := 1) (v := ?_) rfl (by kernel_rfl) (by kernel_rfl) (by kernel_rfl) (fun _ _ _ h => h) (by rfl) ?_ ?_
          rotate_left
          · intro W hW; go_simp; try with_reducible rfl
          simp only [Act.put, List.setIfInBounds_toArray, List.set_cons_zero, List.set_cons_succ]
          refine regE_take (i := 2) (v := ?_) rfl (by kernel_rfl) (by kernel_rfl) (by kernel_rfl) (fun _ _ _ h => h) (by rfl) ?_ ?_
          rotate_left
          · intro W hW; go_simp; try with_reducible rfl
          simp only [Act.put, List.setIfInBounds_toArray, List.set_cons_zero, List.set_cons_succ]
          refine regE_take (i := 3) (v := ?_) rfl (by kernel_rfl) (by kernel_rfl) (by kernel_rfl) (fun _ _ _ h => h) (by rfl) ?_ ?_
          rotate_left
          · intro W hW; have s1 := (hW.cell (p := ⟨g, o + j, none⟩) hg).trans hc0; go_simp; try with_reducible rfl
          simp only [Act.put, List.setIfInBounds_toArray, List.set_cons_zero, List.set_cons_succ]
          refine regE_take (i := 4) (v := ?_) rfl (by kernel_rfl) (by kernel_rfl) (by kernel_rfl) (fun _ _ _ h => h) (by rfl) ?_ ?_
          rotate_left
          · intro W hW; have s1 := run_str (hB0.ext hW); go_simp; try with_reducible rfl
          simp only [Act.put, List.setIfInBounds_toArray, List.set_cons_zero, List.set_cons_succ]
          refine regE_take (i := 5) (v := ?_) rfl (by kernel_rfl) (by kernel_rfl) (by kernel_rfl) (fun _ _ _ h => h) (by rfl) ?_ ?_
          rotate_left
          · intro W hW; go_simp; try with_reducible rfl
          simp only [Act.put, List.setIfInBounds_toArray, List.set_cons_zero, List.set_cons_succ]
          refine regE_take (i := 6) (v := ?_) rfl (by kernel_rfl) (by kernel_rfl) (by kernel_rfl) (fun _ _ _ h => h) (by rfl) ?_ ?_
          rotate_left
          · intro W hW; go_simp; try with_reducible rfl
          simp only [Act.put, List.setIfInBounds_toArray, List.set_cons_zero, List.set_cons_succ]
          refine regE_take (i := 7) (v := ?_) rfl (by kernel_rfl) (by kernel_rfl) (by kernel_rfl) (fun _ _ _ h => h) (by rfl) ?_ ?_
          rotate_left
          · intro W hW; go_simp; try with_reducible rfl
          simp only [Act.put, List.setIfInBounds_toArray, List.set_cons_zero, List.set_cons_succ]
          refine regE_take (i := 8) (v := ?_) rfl (by kernel_rfl) (by kernel_rfl) (by kernel_rfl) (fun _ _ _ h => h) (by rfl) ?_ ?_
          rotate_left
          · intro W hW; have s1 := (hW.cell (p := ⟨g2, o2 + j, none⟩) hg2).trans hc1; go_simp; try with_reducible rfl
          simp only [Act.put, List.setIfInBounds_toArray, List.set_cons_zero, List.set_cons_succ]
          refine regE_take (i := 9) (v := ?_) rfl (by kernel_rfl) (by kernel_rfl) (by kernel_rfl) (fun _ _ _ h => h) (by rfl) ?_ ?_
          rotate_left
          · intro W hW; have s1 := run_str (hB1.ext hW); go_simp; try with_reducible rfl
          simp only [Act.put, List.setIfInBounds_toArray, List.set_cons_zero, List.set_cons_succ]
          refine regE_take (i := 10) (v := ?_) rfl (by kernel_rfl) (by kernel_rfl) (by kernel_rfl) (fun _ _ _ h => h) (by rfl) ?_ ?_
          rotate_left
          · intro W hW; go_simp; try with_reducible rfl
          simp only [Act.put, List.setIfInBounds_toArray, List.set_cons_zero, List.set_cons_succ]
          refine regE_done (by kernel_rfl) ?_
          go_wp2_with fail
          go_roundw
          case rel => exact ⟨j + 1, by omega, by go_num, htg hxy, hR⟩
          case measure => simp [intOf]; omega
        · have hb : (x == y) = false := beq_eq_false_iff_ne.2 hxy
          obtain rfl : false = r := by
            rw [← hr]; symm
            exact decide_eq_false fun e => hxy (hback e)
          go_upto_region 6 with fail
          refine regE_start_at (hE0) (by kernel_rfl) ?_
          have hR := (hE0).drew
          generalize hgw : (wr).drew = wr0 at *
          clear hgw
          refine regE_take (i := 0) (v := ?_) rfl (by kernel_rfl) (by kernel_rfl) (by kernel_rfl) (fun _ _ _ h => h) (by rfl) ?_ ?_
          rotate_left
          · intro W hW; go_simp; try with_reducible rfl
          simp only [Act.put, List.setIfInBounds_toArray, List.set_cons_zero, List.set_cons_succ]
          refine regE_take (i := 1) (v := ?_) rfl (by kernel_rfl) (by kernel_rfl) (by kernel_rfl) (fun _ _ _ h => h) (by rfl) ?_ ?_
          rotate_left
          · intro W hW; go_simp; try with_reducible rfl
          simp only [Act.put, List.setIfInBounds_toArray, List.set_cons_zero, List.set_cons_succ]
          refine regE_take (i := 2) (v := ?_) rfl (by kernel_rfl) (by kernel_rfl) (by kernel_rfl) (fun _ _ _ h => h) (by rfl) ?_ ?_
          rotate_left
          · intro W hW; go_simp; try with_reducible rfl
          simp only [Act.put, List.setIfInBounds_toArray, List.set_cons_zero, List.set_cons_succ]
          refine regE_take (i := 3) (v := ?_) rfl (by kernel_rfl) (by kernel_rfl) (by kernel_rfl) (fun _ _ _ h => h) (by rfl) ?_ ?_
          rotate_left
          · intro W hW; have s1 := (hW.cell (p := ⟨g, o + j, none⟩) hg).trans hc0; go_simp; try with_reducible rfl
          simp only [Act.put, List.setIfInBounds_toArray, List.set_cons_zero, List.set_cons_succ]
          refine regE_take (i := 4) (v := ?_) rfl (by kernel_rfl) (by kernel_rfl) (by kernel_rfl) (fun _ _ _ h => h) (by rfl) ?_ ?_
          rotate_left
          · intro W hW; have s1 := run_str (hB0.ext hW); go_simp; try with_reducible rfl
          simp only [Act.put, List.setIfInBounds_toArray, List.set_cons_zero, List.set_cons_succ]
          refine regE_take (i := 5) (v := ?_) rfl (by kernel_rfl) (by kernel_rfl) (by kernel_rfl) (fun _ _ _ h => h) (by rfl) ?_ ?_
          rotate_left
          · intro W hW; go_simp; try with_reducible rfl
          simp only [Act.put, List.setIfInBounds_toArray, List.set_cons_zero, List.set_cons_succ]
          refine regE_take (i := 6) (v := ?_) rfl (by kernel_rfl) (by kernel_rfl) (by kernel_rfl) (fun _ _ _ h => h) (by rfl) ?_ ?_
          rotate_left
          · intro W hW; go_simp; try with_reducible rfl
          simp only [Act.put, List.setIfInBounds_toArray, List.set_cons_zero, List.set_cons_succ]
          refine regE_take (i := 7) (v := ?_) rfl (by kernel_rfl) (by kernel_rfl) (by kernel_rfl) (fun _ _ _ h => h) (by rfl) ?_ ?_
          rotate_left
          · intro W hW; go_simp; try with_reducible rfl
          simp only [Act.put, List.setIfInBounds_toArray, List.set_cons_zero, List.set_cons_succ]
          refine regE_take (i := 8) (v := ?_) rfl (by kernel_rfl) (by kernel_rfl) (by kernel_rfl) (fun _ _ _ h => h) (by rfl) ?_ ?_
          rotate_left
          · intro W hW; have s1 := (hW.cell (p := ⟨g2, o2 + j, none⟩) hg2).trans hc1; go_simp; try with_reducible rfl
          simp only [Act.put, List.setIfInBounds_toArray, List.set_cons_zero, List.set_cons_succ]
          refine regE_take (i := 9) (v := ?_) rfl (by kernel_rfl) (by kernel_rfl) (by kernel_rfl) (fun _ _ _ h => h) (by rfl) ?_ ?_
          rotate_left
          · intro W hW; have s1 := run_str (hB1.ext hW); go_simp; try with_reducible rfl
          simp only [Act.put, List.setIfInBounds_toArray, List.set_cons_zero, List.set_cons_succ]
          refine regE_take (i := 10) (v := ?_) rfl (by kernel_rfl) (by kernel_rfl) (by kernel_rfl) (fun _ _ _ h => h) (by rfl) ?_ ?_
          rotate_left
          · intro W hW; go_simp; try with_reducible rfl
          simp only [Act.put, List.setIfInBounds_toArray, List.set_cons_zero, List.set_cons_succ]
          refine regE_done (by kernel_rfl) ?_
          go_wp2_with fail
          go_ret
          exact ⟨rfl, hR⟩
      · obtain rfl : j = n := by omega
        obtain rfl : true = r := by
          rw [← hr]; symm
          rw [List.take_of_length_le (by omega), List.take_of_length_le (by omega)] at htk
          exact decide_eq_true htk
        clear htk
        go_wp2_with fail
        go_ret
        exact ⟨rfl, hE⟩
  · have hb : ((n : Int) != (n2 : Int)) = true := by rw [bne_iff_ne]; omega
    obtain rfl : false = r := by
      rw [← hr]; symm
      exact decide_eq_false fun e => hne (by rw [← hlen, ← hlen2, e])
    go_enter Try.func42, Try.ntmps42
    go_wp2_with fail
    go_ret
    exact ⟨rfl, Ext.refl _⟩
end Go.Proofs.Ythepndimhiieiaa

/- NackJoins: the walk. -/
import Derived.Test.YtiamcdbnhmlhaaaDoorNackAwake
namespace Go.Proofs.YtiamcdbnhmlhaaaDoor
open Go.RowKit
theorem own_none {α : Type} {E : Enc α} (w : World) (e : TypeId) : (w.alloc (.cells #[] e)).ownsRow w.heap.size e E.size (.slice (some ⟨w.heap.size, 0, none⟩) 0 0) 0 (E.cells []) :=
  World.ownsRow_lit (base := w.heap.size) (e := e) (size := E.size) w #[] 0 (Nat.le_refl _) (by unfold maxLen; omega) (by simp)
theorem pairs_two (a b : UInt16) : (takesN (a, 0) b = true ∧ ∃ q, pairs [a, b] = [q]) ∨ (takesN (a, 0) b = false ∧ pairs [a, b] = [(a, 0), (b, 0)]) := by
  cases h : takesN (a, 0) b
  · right; exact ⟨rfl, by unfold pairs pairsR; simp [stepR, h]⟩
  · left; exact ⟨rfl, join1 (a, 0) b, by unfold pairs pairsR; simp [stepR, h]⟩
theorem takes_zero (a b : UInt16) : takesN (a, 0) b = true ↔ 1 ≤ far (a, 0) b ∧ far (a, 0) b ≤ 16 := by
  rw [takes_iff]
  have : blen (((a, 0) : Pr).2.toNat) = 0 := rfl
  rw [this]
  omega
set_option maxRecDepth 100000 in
set_option maxHeartbeats 2000000 in
theorem law_nackjoins (A : Option Addr) (n c : Nat) (l : List Pr) (A2 : Option Addr) (n2 c2 : Nat) (m : List Pr) (a b : UInt16) (w : World) (ht : Tab w) (h : Els ePr w A n c l) (h2 : Els ePr w A2 n2 c2 m) :
    Calls Tryd.prog 6 #[.slice A n c, .slice A2 n2 c2, .int .u16 (a.toNat : Int), .int .u16 (b.toNat : Int)] w fun e w' => e = .returned (.bool true) ∧ Ext w w' := by
  by_cases hbig : 1000 < n ∨ 1000 < n2
  · go_enter Tryd.func6, Tryd.ntmps6
    go_wp2_with fail
    refine (awake15 _ ht).mono ?_
    rintro e w1 ⟨rfl, hE⟩
    by_cases k1 : 1000 < n
    · go_wp2_with fail
      go_ret
      exact ⟨rfl, hE⟩
    · have k2 : 1000 < n2 := by omega
      go_wp2_with fail
      go_ret
      exact ⟨rfl, hE⟩
  · have k1 : ¬ 1000 < n := by omega
    have k2 : ¬ 1000 < n2 := by omega
    clear hbig
    obtain ⟨T⟩ := tyPr
    obtain ⟨T2⟩ := ty16
    have hln := h.len
    have hlm := h2.len
    have j1 := tells_len l
    have j2 := tells_len m
    have hta := tells_append l m
    obtain ⟨t, et⟩ : ∃ t, tells l = t := ⟨_, rfl⟩
    obtain ⟨u, eu⟩ : ∃ t, tells m = t := ⟨_, rfl⟩
    rw [et] at j1 hta
    rw [eu] at j2 hta
    have S1 := hide (fun W c A h ht => seqs_B A n c l W h (by omega) ht t et)
    have S2 := hide (fun W c A h ht => seqs_B A n2 c m W h (by omega) ht u eu)
    have S3 := hide (fun W c A h ht => seqs_B A (n + n2) c (l ++ m) W h (by omega) ht (t ++ u) hta)
    have J1 : t.length ≤ 17000 := by omega
    have J2 : u.length ≤ 17000 := by omega
    clear et eu hta j1 j2 hln hlm
    go_enter Tryd.func6, Tryd.ntmps6
    go_wp2_with fail
    refine (awake15 _ ht).mono ?_
    rintro e w1 ⟨rfl, hE⟩
    replace ht := ht.ext hE
    replace h := h.ext hE
    replace h2 := h2.ext hE
    go_wp2_with (at_builtin; first
      | (refine wpList_appE T w1 _ _ rfl rfl ((Ext.refl _).alloc _) _ _ _ _ rfl (own_none _ _) A n c l rfl (h.alloc _) (by omega) ?_; intro A3 c3 w3 hown3 hE3 hk3; rw [Nat.zero_add, List.nil_append] at hown3)
      | (refine wpList_appE T w1 _ _ rfl rfl hE3 A3 n c3 l rfl hown3 A2 n2 c2 m rfl (h2.ext hE3) (by omega) ?_; intro A4 c4 w4 hown4 hE4 hk4))
    have hL := Els.own (E := ePr) hown4
    replace hE := hE.trans hE4
    replace ht := ht.ext hE4
    replace h := h.ext hE4
    replace h2 := h2.ext hE4
    clear hown3 hown4 hk3 hk4 hE3 hE4
    refine (S3.out _ _ _ hL ht).mono ?_
    rintro e w5 ⟨Ab, cb, rfl, hBo, hE2⟩
    rw [List.length_append] at hBo
    replace hE := hE.trans hE2
    replace ht := ht.ext hE2
    replace h := h.ext hE2
    replace h2 := h2.ext hE2
    clear hE2 S3 hL
    have hO := own_none (E := e16) w5 39
    have hE5 := (Ext.refl w5).alloc (.cells #[] 39)
    go_wp2_with fail
    refine (S1.out _ _ _ (h.ext hE5) (ht.ext hE5)).mono ?_
    rintro e w6 ⟨At, ct, rfl, hT, hE2⟩
    replace hO := own_ext hO hE2
    replace hE5 := hE5.trans hE2
    clear hE2 S1 h
    go_wp2_with (at_builtin; refine wpList_appE T2 w5 _ _ rfl rfl hE5 _ _ _ _ rfl hO At t.length ct t rfl hT (by omega) ?_; intro A7 c7 w7 hO7 hE7 hk7; rw [Nat.zero_add, List.nil_append] at hO7)
    clear hO hE5 hk7 hT
    refine (S2.out _ _ _ (h2.ext hE7) (ht.ext hE7)).mono ?_
    rintro e w8 ⟨Au, cu, rfl, hU, hE2⟩
    replace hO7 := own_ext hO7 hE2
    replace hE7 := hE7.trans hE2
    clear hE2 S2 h2 ht
    go_wp2_with (at_builtin; refine wpList_appE T2 w5 _ _ rfl rfl hE7 _ _ _ _ rfl hO7 Au u.length cu u rfl hU (by omega) ?_; intro A9 c9 w9 hO9 hE9 hk9)
    have hV := Els.own (E := e16) hO9
    replace hE := hE.trans hE9
    replace hBo := hBo.ext hE9
    clear hO7 hO9 hk9 hU hE7 hE9
    refine (numbers_any _ _ _ _ _ _ _ _ _ hBo hV true (by simp)).mono ?_
    rintro e w10 ⟨rfl, hE2⟩
    replace hE := hE.trans hE2
    clear hE2 hBo hV
    go_wp2_with fail
    have hF := far_val (a, 0) b
    have hFl := far_lt (a, 0) b
    have hti := takes_zero a b
    rcases pairs_two a b with ⟨htk, q, hq⟩ | ⟨htk, hq⟩
    · have hlit := Els.lit (E := e16) (w := w10) (vs := [.int .u16 (a.toNat : Int), .int .u16 (b.toNat : Int)]) [a, b] 39 2 rfl rfl (by omega)
      refine (pairs_B _ _ _ _ _ hlit (by omega) _ hq).mono ?_
      rintro e w11 ⟨Aq, cq, rfl, hQ, hE2⟩
      replace hE := (hE.alloc _).trans hE2
      obtain ⟨g1, g2⟩ := hti.1 htk
      generalize far (a, 0) b = F at hF hFl g1 g2 hti
      have g3 : (1 : Int) ≤ (F : Int) := by omega
      have g4 : (F : Int) ≤ 16 := by omega
      clear hti htk hq hQ hE2 hlit
      go_wp2_with fail
      go_ret
      exact ⟨rfl, hE⟩
    · have hlit := Els.lit (E := e16) (w := w10) (vs := [.int .u16 (a.toNat : Int), .int .u16 (b.toNat : Int)]) [a, b] 39 2 rfl rfl (by omega)
      refine (pairs_B _ _ _ _ _ hlit (by omega) _ hq).mono ?_
      rintro e w11 ⟨Aq, cq, rfl, hQ, hE2⟩
      replace hE := (hE.alloc _).trans hE2
      have hno : ¬ (1 ≤ far (a, 0) b ∧ far (a, 0) b ≤ 16) := fun e => by rw [hti.2 e] at htk; cases htk
      obtain ⟨g, o, rfl, hg, hc⟩ := hQ.pr (by simp)
      obtain ⟨u0, u1⟩ := hc 0 (by simp)
      obtain ⟨u2, u3⟩ := hc 1 (by simp)
      simp at u0 u1 u2 u3
      have s1 := fun w => eql_pair (a.toNat : Int) 0 (a.toNat : Int) 0 w
      have s2 := fun w => eql_pair (b.toNat : Int) 0 (b.toNat : Int) 0 w
      rw [show ((a.toNat : Int) == (a.toNat : Int) && (0 : Int) == 0) = true by simp] at s1
      rw [show ((b.toNat : Int) == (b.toNat : Int) && (0 : Int) == 0) = true by simp] at s2
      generalize far (a, 0) b = F at hF hFl hno hti
      clear hti htk hq hQ hE2 hlit hc
      by_cases g1 : 1 ≤ F
      · have g3 : (1 : Int) ≤ (F : Int) := by omega
        have g4 : ¬ ((F : Int) ≤ 16) := by omega
        have g5 : decide ((F : Int) ≤ 16) = false := decide_eq_false g4
        go_wp2_with fail
        go_ret
        exact ⟨rfl, hE⟩
      · have g3 : ¬ ((1 : Int) ≤ (F : Int)) := by omega
        go_wp2_with fail
        go_ret
        exact ⟨rfl, hE⟩
end Go.Proofs.YtiamcdbnhmlhaaaDoor

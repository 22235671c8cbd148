/- pad.Trail, pad.Add, train.trailer: the walks. -/
import Derived.Test.YthepndimhiieiaaPlainTrain
import Derived.Test.YthepndimhiieiaaCommon
import Derived.Test.YthepndimhiieiaaClone
import Derived.Test.YthepndimhiieiaaStr
import Derived.Test.YthepndimhiieiaaBK
import Derived.BigQuiet
import Derived.Deep.QuietTactic
namespace Go.Proofs.Ythepndimhiieiaa
open Go.RowKit
set_option maxRecDepth 100000 in
set_option maxHeartbeats 1000000 in
theorem ptrail_any (A : Option Addr) (n c : Nat) (b : List UInt8) (w : World) (hb : Bytes w A n c b) (V : Nat) (E : Int) (hV : tlV b = V) (hE : tlE b = E) : Calls Try.prog 98 #[.slice A n c] w fun e w' => e = .returned (.tuple #[.int .i64 (V : Int), .int .i64 E]) ∧ w = w' := by
  have hlen := hb.len
  by_cases h0 : n = 0
  · subst h0
    obtain rfl : 5 = E := by rw [← hE]; unfold tlE; rw [if_pos (by omega)]
    obtain rfl : 0 = V := by rw [← hV]; unfold tlV; rw [hE]; rfl
    clear hV hE
    go_enter Try.func98, Try.ntmps98
    go_wp2_with fail
    go_ret2
    exact ⟨rfl, rfl⟩
  · obtain ⟨g, o, rfl, hg⟩ := hb.plain (by omega)
    have hc := hb.cellK (n - 1) (by omega)
    obtain ⟨k, hk⟩ : ∃ k, tlN b = k := ⟨_, rfl⟩
    have hk2 := tlN_lt b
    have hkd : (b.getD (n - 1) 0).toNat = k := by rw [← hk, tlN, hlen]
    rw [hkd] at hc
    rw [hk] at hk2
    have e4 : ((n : Int) - 1).toNat = n - 1 := by omega
    have i1 : (0 : Int) ≤ (n : Int) - 1 := by omega
    have i2 : (n : Int) - 1 < (n : Int) := by omega
    have hnc := hb.le
    have hcm := hb.reach
    have hn0 : ((n : Int) == 0) = false := beq_eq_false_iff_ne.2 (by omega)
    have hcase : (((k : Int) == 0) = true ∧ V = 0 ∧ E = 5) ∨ (((k : Int) == 0) = false ∧ (n : Int) < (k : Int) ∧ V = 0 ∧ E = 5) ∨ (((k : Int) == 0) = false ∧ ¬ (n : Int) < (k : Int) ∧ V = k ∧ E = 0) := by
      by_cases h1 : k = 0
      · have e : tlE b = 5 := by unfold tlE; rw [if_pos (by omega)]
        exact .inl ⟨beq_iff_eq.2 (by omega), by rw [← hV, tlV, e]; rfl, by rw [← hE, e]⟩
      · by_cases h2 : n < k
        · have e : tlE b = 5 := by unfold tlE; rw [if_pos (by omega)]
          exact .inr (.inl ⟨beq_eq_false_iff_ne.2 (by omega), by omega, by rw [← hV, tlV, e]; rfl, by rw [← hE, e]⟩)
        · have e : tlE b = 0 := by unfold tlE; rw [if_neg (by omega)]
          exact .inr (.inr ⟨beq_eq_false_iff_ne.2 (by omega), by omega, by rw [← hV, tlV, if_pos e, hk], by rw [← hE, e]⟩)
    clear hV hE hk hkd hlen
    rcases hcase with ⟨q0, rfl, rfl⟩ | ⟨q0, q1, rfl, rfl⟩ | ⟨q0, q1, rfl, rfl⟩
    all_goals
      go_enter Try.func98, Try.ntmps98
      go_wp2_with fail
      go_ret2
      exact ⟨rfl, rfl⟩
set_option maxRecDepth 100000 in
set_option maxHeartbeats 1000000 in
theorem zeros_ok (n : Nat) (hn : n ≤ 1048576) (w : World) : Calls Try.prog 101 #[.int .i64 (n : Int)] w fun e w' => ∃ A c, e = .returned (.slice A n c) ∧ Bytes w' A n c (List.replicate n 0) ∧ Ext w w' := by
  have hmk := make_bytes n (by omega)
  have hR := Row.zeros (Blk.new w 5 (Array.replicate n (Bv 0)))
  have hE := (Ext.refl w).alloc (.cells (Array.replicate n (Bv 0)) 5)
  have ho := hR.own (base := w.heap.size) (Nat.le_refl _) (by simp [maxLen]; omega)
  rw [List.length_replicate] at ho
  go_enter Try.func101, Try.ntmps101
  go_wp2_with fail
  go_ret
  exact ⟨_, _, rfl, Bytes.own ho, hE⟩
theorem concat_B (A : Option Addr) (k c : Nat) (ls : List (List UInt8)) (w : World) (h : Slices w A k c ls) (n : Nat) (x : List UInt8) (hx : cat ls = x) (hl : x.length = n) (hn : n ≤ 70368744177664) :
    Calls Try.prog 100 #[.slice A k c] w fun e w' => ∃ A' c', e = .returned (.slice A' n c') ∧ Bytes w' A' n c' x ∧ Ext w w' := by
  subst hx hl
  exact (concat_any A k c ls w h hn).mono fun e w' ⟨A', c', he, ho, hE2⟩ => ⟨A', c', he, Bytes.own ho, hE2⟩
theorem joinx_B (A : Option Addr) (k c : Nat) (ls : List (List UInt8)) (w : World) (h : Slices w A k c ls) (n : Nat) (x : List UInt8) (hx : cat ls = x) (hl : x.length = n) (hn : n ≤ 70368744177664) :
    Calls Try.prog 81 #[.slice A k c] w fun e w' => ∃ A' c', e = .returned (.slice A' n c') ∧ Bytes w' A' n c' x ∧ Ext w w' := by
  subst hx hl
  exact (join_any A k c ls w h hn).mono fun e w' ⟨A', c', he, ho, hE2⟩ => ⟨A', c', he, Bytes.own ho, hE2⟩
set_option maxRecDepth 100000 in
set_option maxHeartbeats 1000000 in
theorem padd_ok (A : Option Addr) (n c : Nat) (b : List UInt8) (t : Nat) (h1 : 1 ≤ t) (h2 : t ≤ 255) (hn : n ≤ 1000000) (w : World) (hb : Bytes w A n c b) (y : List UInt8) (hy : b ++ tlBytes t = y) : Calls Try.prog 82 #[.slice A n c, .int .i64 (t : Int)] w fun e w' => ∃ A' c', e = .returned (.tuple #[.slice A' (n + t) c', .int .i64 0]) ∧ Bytes w' A' (n + t) c' y ∧ Ext w w' := by
  have hlen := hb.len
  have hyl : y.length = n + t := by rw [← hy, List.length_append, tlBytes_len, hlen]
  have hcat : cat [b, List.replicate (t - 1) 0, [UInt8.ofNat t]] = y := by rw [← hy, tlBytes, if_neg (by omega)]; simp [cat]
  have Z := hide (fun W => zeros_ok (t - 1) (by omega) W)
  have k1 : (t : Int) - 1 = ((t - 1 : Nat) : Int) := by omega
  have HC := hide (And.intro hcat hyl)
  have g1 : ¬ (t : Int) < 1 := by omega
  have g2 : ¬ (255 : Int) < (t : Int) := by omega
  have K := hide k1
  have km : (t : Int) % 256 = (t : Int) := by omega
  clear hcat hyl hy hlen k1
  go_enter Try.func82, Try.ntmps82
  go_wp2_with fail
  rw [K.out]
  refine (Z.out _).mono ?_
  rintro e w1 ⟨A2, c2, rfl, hZ, hE⟩
  replace hb := hb.ext hE
  go_wp2_with fail
  have hv1 : [UInt8.ofNat t].map Bv = [.int .u8 (t : Int)] := by simp [Bv]; omega
  have hL1 := Bytes.lit (w := w1) _ 5 1 hv1 rfl (by omega)
  have hSl := Slices.lit (vs := [.slice A n c, .slice A2 (t - 1) c2, .slice (some ⟨w1.heap.size, 0, none⟩) 1 1]) (ls := [b, List.replicate (t - 1) 0, [UInt8.ofNat t]]) 25 3 rfl (by omega) ⟨hb.alloc _, hZ.alloc _, hL1, trivial⟩
  rw [World.size_alloc] at hSl
  refine (concat_B _ _ _ _ _ hSl (n + t) y HC.out.1 HC.out.2 (by omega)).mono ?_
  rintro e w2 ⟨A3, c3, rfl, hB, hE2⟩
  go_wp2_with fail
  go_ret2
  exact ⟨A3, c3, rfl, hB, ((hE.alloc _).alloc _).trans hE2⟩
set_option maxRecDepth 100000 in
set_option maxHeartbeats 1000000 in
theorem trailer_any (p : Bool) (ct t s : Int) (A : Option Addr) (n c : Nat) (b : List UInt8) (w : World) (hb : Bytes w A n c b) (V : Nat) (E : Int) (hV : trN p b = V) (hE : trE p b = E) : Calls Try.prog 77 #[.agg #[.bool p, .int .i64 ct, .int .i64 t, .int .i64 s], .slice A n c] w fun e w' => e = .returned (.tuple #[.int .i64 (V : Int), .int .i64 E]) ∧ Ext w w' := by
  cases p
  · obtain rfl : 0 = V := by rw [← hV]; unfold trN; simp
    obtain rfl : 0 = E := by rw [← hE]; unfold trE; simp
    clear hV hE
    go_enter Try.func77, Try.ntmps77
    go_wp2_with fail
    go_ret2
    exact ⟨rfl, (Ext.refl _).alloc _⟩
  · obtain ⟨v, hv⟩ : ∃ v, tlV b = v := ⟨_, rfl⟩
    obtain ⟨e5, he5⟩ : ∃ v, tlE b = v := ⟨_, rfl⟩
    have S := hide (fun W h => ptrail_any A n c b W h v e5 hv he5)
    have hcase : ((e5 != 0) = true ∧ V = 0 ∧ E = 5) ∨ ((e5 != 0) = false ∧ (0 : Int) < (v : Int) % 4 ∧ V = 0 ∧ E = 5) ∨ ((e5 != 0) = false ∧ ¬ (0 : Int) < (v : Int) % 4 ∧ V = v ∧ E = 0) := by
      by_cases h1 : e5 = 0
      · have hvn : v = tlN b := by rw [← hv, tlV, he5, if_pos h1]
        by_cases h2 : v % 4 = 0
        · have e : trE true b = 0 := by unfold trE; rw [if_neg (by rw [he5, ← hvn]; rintro ⟨_, q | q⟩; exact q h1; exact q h2)]
          exact .inr (.inr ⟨by simp [h1], by omega, by rw [← hV, trN, if_pos ⟨rfl, e⟩, hvn], by rw [← hE, e]⟩)
        · have e : trE true b = 5 := by unfold trE; rw [if_pos ⟨rfl, .inr (by rw [← hvn]; exact h2)⟩]
          exact .inr (.inl ⟨by simp [h1], by omega, by rw [← hV, trN, e]; rfl, by rw [← hE, e]⟩)
      · have e : trE true b = 5 := by unfold trE; rw [if_pos ⟨rfl, .inl (by rw [he5]; exact h1)⟩]
        exact .inl ⟨by simp [h1], by rw [← hV, trN, e]; rfl, by rw [← hE, e]⟩
    clear hV hE hv he5
    rcases hcase with ⟨q0, rfl, rfl⟩ | ⟨q0, q1, rfl, rfl⟩ | ⟨q0, q1, rfl, rfl⟩
    all_goals
      go_enter Try.func77, Try.ntmps77
      go_wp2_with fail
      refine (S.out _ (hb.alloc _)).mono ?_
      rintro e w1 ⟨rfl, rfl⟩
      go_wp2_with fail
      go_ret2
      exact ⟨rfl, (Ext.refl _).alloc _⟩
end Go.Proofs.Ythepndimhiieiaa

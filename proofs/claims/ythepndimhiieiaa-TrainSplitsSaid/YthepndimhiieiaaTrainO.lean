/- train.Close, the result owned; append of bytes beside other rows. -/
import Derived.Test.YthepndimhiieiaaTrainC
import Derived.Test.YthepndimhiieiaaCars
import Derived.Test.YthepndimhiieiaaAppB
namespace Go.Proofs.Ythepndimhiieiaa
open Go.RowKit
theorem concat_O2 (B : Nat) (A : Option Addr) (k c : Nat) (ls : List (List UInt8)) (w : World) (hBw : B ≤ w.heap.size) (h : Slices w A k c ls) (n : Nat) (x : List UInt8) (hx : cat ls = x) (hl : x.length = n) (hn : n ≤ 70368744177664) :
    Calls Try.prog 100 #[.slice A k c] w fun e w' => ∃ A' c', e = .returned (.slice A' n c') ∧ w'.ownsRow B 5 1 (.slice A' n c') n (x.map Bv) ∧ Ext w w' := by
  subst hx hl
  exact (concat_any A k c ls w h hn).mono fun e w' ⟨A', c', he, ho, hE2⟩ => ⟨A', c', he, own_more ho hBw, hE2⟩
theorem joinx_O (B : Nat) (A : Option Addr) (k c : Nat) (ls : List (List UInt8)) (w : World) (hBw : B ≤ w.heap.size) (h : Slices w A k c ls) (n : Nat) (x : List UInt8) (hx : cat ls = x) (hl : x.length = n) (hn : n ≤ 70368744177664) :
    Calls Try.prog 81 #[.slice A k c] w fun e w' => ∃ A' c', e = .returned (.slice A' n c') ∧ w'.ownsRow B 5 1 (.slice A' n c') n (x.map Bv) ∧ Ext w w' := by
  subst hx hl
  exact (join_any A k c ls w h hn).mono fun e w' ⟨A', c', he, ho, hE2⟩ => ⟨A', c', he, own_more ho hBw, hE2⟩
set_option maxRecDepth 100000 in
set_option maxHeartbeats 1000000 in
theorem padd_O (A : Option Addr) (n c : Nat) (b : List UInt8) (t : Nat) (h1 : 1 ≤ t) (h2 : t ≤ 255) (hn : n ≤ 1000000) (w : World) (hb : Bytes w A n c b) (y : List UInt8) (hy : b ++ tlBytes t = y) : Calls Try.prog 82 #[.slice A n c, .int .i64 (t : Int)] w fun e w' => ∃ A' c', e = .returned (.tuple #[.slice A' (n + t) c', .int .i64 0]) ∧ w'.ownsRow w.heap.size 5 1 (.slice A' (n + t) c') (n + t) (y.map Bv) ∧ Ext w w' := by
  have hlen := hb.len
  have hyl : y.length = n + t := by rw [← hy, List.length_append, tlBytes_len, hlen]
  have hcat : cat [b, List.replicate (t - 1) 0, [UInt8.ofNat t]] = y := by rw [← hy, tlBytes, if_neg (by omega)]; simp [cat]
  have Z := hide (fun W => zeros_ok (t - 1) (by omega) W)
  have k1 : (t : Int) - 1 = ((t - 1 : Nat) : Int) := by omega
  have HC := hide (And.intro hcat hyl)
  have g1 : ¬ (t : Int) < 1 := by omega
  have g2 : ¬ (255 : Int) < (t : Int) := by omega
  have K := hide k1
  have km : (t : Int) % 256 = (t : Int) := by omega
  clear hcat hyl hy hlen k1
  go_enter Try.func82, Try.ntmps82
  go_wp2_with fail
  rw [K.out]
  refine (Z.out _).mono ?_
  rintro e w1 ⟨A2, c2, rfl, hZ, hE⟩
  replace hb := hb.ext hE
  go_wp2_with fail
  have hv1 : [UInt8.ofNat t].map Bv = [.int .u8 (t : Int)] := by simp [Bv]; omega
  have hL1 := Bytes.lit (w := w1) _ 5 1 hv1 rfl (by omega)
  have hSl := Slices.lit (vs := [.slice A n c, .slice A2 (t - 1) c2, .slice (some ⟨w1.heap.size, 0, none⟩) 1 1]) (ls := [b, List.replicate (t - 1) 0, [UInt8.ofNat t]]) 25 3 rfl (by omega) ⟨hb.alloc _, hZ.alloc _, hL1, trivial⟩
  rw [World.size_alloc] at hSl
  refine (concat_O2 w.heap.size _ _ _ _ _ (by have := hE.size; simp; omega) hSl (n + t) y HC.out.1 HC.out.2 (by omega)).mono ?_
  rintro e w2 ⟨A3, c3, rfl, hB, hE2⟩
  go_wp2_with fail
  go_ret2
  exact ⟨A3, c3, rfl, hB, ((hE.alloc _).alloc _).trans hE2⟩
set_option maxRecDepth 100000 in
set_option maxHeartbeats 2000000 in
theorem tclose_O (k ct : Int) (t : Nat) (A : Option Addr) (n c : Nat) (body : List UInt8) (w : World) (hb : Bytes w A n c body) (h : clOK k ct n t = true) (y : List UInt8) (hy : clBytes k ct body t = y) : Calls Try.prog 37 #[.int .i64 k, .int .i64 ct, .slice A n c, .int .i64 t] w fun e w' => ∃ A' c', e = .returned (.tuple #[.slice A' (4 + n + t) c', .int .i64 0]) ∧ w'.ownsRow w.heap.size 5 1 (.slice A' (4 + n + t) c') (4 + n + t) (y.map Bv) ∧ Ext w w' := by
  have hlen := hb.len
  unfold clOK at h
  rw [Bool.and_eq_true, decide_eq_true_eq] at h
  obtain ⟨⟨q1, q2, q3, q4⟩, hr⟩ := h
  obtain ⟨_, _, _, _, _, r6, _⟩ := cRight_zero hr
  have S := fun W => cwrite_yes (decide (0 < t)) ct k (4 + n + t) W hr
  have hcb := (cB_parts (p := decide (0 < t)) hr []).1
  have j1 : IntKind.i64.wrap (4 + (n : Int)) = 4 + (n : Int) := IntWalk.i64_in _ (by omega)
  have j2 : IntKind.i64.wrap (4 + (n : Int) + (t : Int)) = 4 + (n : Int) + (t : Int) := IntWalk.i64_in _ (by omega)
  unfold clBytes at hy
  rw [hlen] at hy
  obtain ⟨H, hH⟩ : ∃ H, cBytes (decide (0 < t)) ct k (4 + n + t) = H := ⟨_, rfl⟩
  rw [hH] at S hcb hy
  have hj : cat [H, body] = H ++ body := by simp [cat]
  have hjl : (H ++ body).length = 4 + n := by rw [List.length_append, hcb, hlen]
  have HJ := hide (And.intro hj hjl)
  have g1 : ¬ (t : Int) < 0 := by omega
  have g2 : ¬ (252 : Int) < (t : Int) := by omega
  have g3 : ¬ (0 : Int) < (t : Int) % 4 := by omega
  have g4 : ¬ (0 : Int) < (n : Int) % 4 := by omega
  by_cases h0 : t = 0
  · subst h0
    obtain rfl : H ++ body = y := by rw [← hy]; simp [tlBytes]
    have e0 : (4 + (n : Int) + ((0 : Nat) : Int)) = 4 + (n : Int) := by omega
    have e1 : decide (0 < 0) = false := rfl
    rw [e0, e1] at S
    have S := hide S
    clear hr hcb hj hjl hH hy q1 q2 q3 q4 hlen e0 e1
    go_enter Try.func37, Try.ntmps37
    go_wp2_with fail
    refine (S.out _).mono ?_
    rintro e w1 ⟨A2, c2, rfl, hB2, hE⟩
    replace hb := hb.ext hE
    go_wp2_with fail
    have hSl := Slices.lit (w := w1) (vs := [.slice A2 4 c2, .slice A n c]) (ls := [H, body]) 25 2 rfl (by omega) ⟨hB2, hb, trivial⟩
    refine (joinx_O w.heap.size _ _ _ _ _ (by have := hE.size; simp; omega) hSl (4 + n) (H ++ body) HJ.out.1 HJ.out.2 (by omega)).mono ?_
    rintro e w2 ⟨A3, c3, rfl, hB, hE2⟩
    go_wp2_with fail
    go_ret2
    exact ⟨A3, c3, rfl, hB, (hE.alloc _).trans hE2⟩
  · have g5 : (0 : Int) < (t : Int) := by omega
    have PA := hide (fun W A c h => padd_O A (4 + n) c (H ++ body) t (by omega) (by omega) (by omega) W h y (by rw [← hy]; simp))
    have S := hide S
    clear hr hcb hj hjl hH hy q1 q2 q3 q4 hlen
    go_enter Try.func37, Try.ntmps37
    go_wp2_with fail
    refine (S.out _).mono ?_
    rintro e w1 ⟨A2, c2, rfl, hB2, hE⟩
    replace hb := hb.ext hE
    go_wp2_with fail
    have hSl := Slices.lit (w := w1) (vs := [.slice A2 4 c2, .slice A n c]) (ls := [H, body]) 25 2 rfl (by omega) ⟨hB2, hb, trivial⟩
    refine (joinx_O w.heap.size _ _ _ _ _ (by have := hE.size; simp; omega) hSl (4 + n) (H ++ body) HJ.out.1 HJ.out.2 (by omega)).mono ?_
    rintro e w2 ⟨A3, c3, rfl, hB, hE2⟩
    go_wp2_with fail
    refine (PA.out _ _ _ (Bytes.own hB)).mono ?_
    rintro e w3 ⟨A4, c4, rfl, hB4, hE3⟩
    go_wp2_with fail
    go_ret2
    exact ⟨A4, c4, rfl, own_more hB4 (by have := ((hE.alloc (.cells #[.slice A2 4 c2, .slice A n c] 25)).trans hE2).size; omega), ((hE.alloc _).trans hE2).trans hE3⟩
theorem wp_appBk {o : Oper} {a : Act} {w : World} {K : Act → World → Prop} {Q : Exit → Act → World → Prop} (w0 : World) (s x : Operand)
    (ho : o.op = .call { callee := .builtin .append, args := #[s, x], argTypes := #[25, 25] }) (hE : Ext w0 w)
    (A0 : Option Addr) (n c0 : Nat) (l : List UInt8) (hs : a.eval s = .slice A0 n c0) (hown : w.ownsRow w0.heap.size 5 1 (.slice A0 n c0) n (l.map Bv))
    (A : Option Addr) (m c : Nat) (r : List UInt8) (hx : a.eval x = .slice A m c) (hb : Bytes w A m c r) (hlen : n + m ≤ 70368744177664)
    (h : ∀ A' c' w', w'.ownsRow w0.heap.size 5 1 (.slice A' (n + m) c') (n + m) ((l ++ r).map Bv) → Ext w0 w' → Keep w w' (.slice A0 n c0) (.slice A' (n + m) c') → K (a.put o.dst (.slice A' (n + m) c')) w') :
    o.wp Try.prog a w K Q := by
  obtain ⟨i0, hi, hz0, hz1, hz2⟩ := info_parts byte_info
  refine wp_append_any _ s x _ ho w0.heap.size 5 i0 _ 1 1 Try.underlying25 hi hz0 hz1 hz2 rfl (by omega) (.slice A0 n c0) _ _ hs hown w.heap.size A m c _ hx hb.1 hb.one (by unfold maxLen; omega) (by omega) hE.size ?_
  intro v' w2 hown2 hg2 hat2
  obtain ⟨A3, c3, rfl⟩ := own_form hown2
  exact h A3 c3 w2 (by rw [List.map_append]; exact hown2) (Ext.appended hE hown hg2) (Keep.of hg2 hat2)
theorem wpList_appBk {ops : Array Oper} {rest : List Oper} {o : Oper} {a : Act} {w : World} {Q : Exit → Act → World → Prop} (w0 : World) (s x : Operand) (hgd : o.guard = none)
    (ho : o.op = .call { callee := .builtin .append, args := #[s, x], argTypes := #[25, 25] }) (hE : Ext w0 w)
    (A0 : Option Addr) (n c0 : Nat) (l : List UInt8) (hs : a.eval s = .slice A0 n c0) (hown : w.ownsRow w0.heap.size 5 1 (.slice A0 n c0) n (l.map Bv))
    (A : Option Addr) (m c : Nat) (r : List UInt8) (hx : a.eval x = .slice A m c) (hb : Bytes w A m c r) (hlen : n + m ≤ 70368744177664)
    (h : ∀ A' c' w', w'.ownsRow w0.heap.size 5 1 (.slice A' (n + m) c') (n + m) ((l ++ r).map Bv) → Ext w0 w' → Keep w w' (.slice A0 n c0) (.slice A' (n + m) c') → wpList Try.prog ops Q rest (a.put o.dst (.slice A' (n + m) c')) w') :
    wpList Try.prog ops Q (o :: rest) a w :=
  wpList_plain hgd fun _ hK => wp_appBk w0 s x ho hE A0 n c0 l hs hown A m c r hx hb hlen fun A' c' w' h1 h2 h3 => hK _ _ (h A' c' w' h1 h2 h3)
/-- None of them lies in v's row. -/
def Apart (hs : List Sl) (v : Value) : Prop := ∀ x ∈ hs, ∀ b, x.v.ownBlock = some b → v.ownBlock ≠ some b
theorem Cars.keep8 {w w' : World} {B : Nat} {v0 v0' : Value} {hs : List Sl} {ls : List (List UInt8)} (h : Cars w B hs ls) (ha : Apart hs v0) (hK : Keep w w' v0 v0') : Cars w' B hs ls ∧ Apart hs v0' := by
  induction hs generalizing ls with
  | nil => cases ls with
    | nil => exact ⟨trivial, fun x hx => absurd hx (by simp)⟩
    | cons l ls => exact h.elim
  | cons x hs ih => cases ls with
    | nil => exact h.elim
    | cons l ls =>
      obtain ⟨i1, i2⟩ := ih h.2 fun y hy => ha y (by simp [hy])
      refine ⟨⟨own_keep h.1 (ha x (by simp)) hK, i1⟩, ?_⟩
      intro y hy b hb
      rcases List.mem_cons.1 hy with rfl | hy
      · exact (hK b (h.1.lt b hb).2 (ha y (by simp) b hb)).1
      · exact i2 y hy b hb
theorem Apart.snoc {hs : List Sl} {v : Value} (h : Apart hs v) {x : Sl} (hx : ∀ b, x.v.ownBlock = some b → v.ownBlock ≠ some b) : Apart (hs ++ [x]) v := by
  intro y hy b hb
  rcases List.mem_append.1 hy with hy | hy
  · exact h y hy b hb
  · rw [List.mem_singleton.1 hy] at hb
    exact hx b hb
theorem apart_new {w w' : World} {B e e' : Nat} {s n n' : Nat} {v v' : Value} {xs xs' : List Value} {B' s' : Nat} (h : w.ownsRow B e s v n xs) (h' : w'.ownsRow B' e' s' v' n' xs') (hB : w.heap.size ≤ B') : ∀ b, v'.ownBlock = some b → v.ownBlock ≠ some b := by
  intro b hb hb2
  have h1 := own_ge h' b hb
  have h2 := h.lt b hb2
  omega
end Go.Proofs.Ythepndimhiieiaa

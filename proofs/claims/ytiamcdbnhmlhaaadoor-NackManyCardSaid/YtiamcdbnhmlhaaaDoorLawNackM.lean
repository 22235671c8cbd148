/- NackMany: the walk. -/
import Derived.Test.YtiamcdbnhmlhaaaDoorLawNackB
import Derived.Test.YtiamcdbnhmlhaaaDoorAppZ
import Derived.ArgAppend
namespace Go.Proofs.YtiamcdbnhmlhaaaDoor
open Go.RowKit
theorem pr_set (l : List Pr) (j : Nat) (p : Pr) : ((ePr.cells l).set (j * 2) (.int .u16 (p.1.toNat : Int))).set (j * 2 + 1) (.int .u16 (p.2.toNat : Int)) = ePr.cells (l.set j p) := by
  induction l generalizing j with
  | nil => simp [Enc.cells]
  | cons x l ih =>
    cases j with
    | zero => simp [Enc.cells, ePr]
    | succ j =>
      have := ih j
      simp only [Enc.cells, List.flatMap_cons, List.set_cons_succ] at this ⊢
      rw [← this, show (j + 1) * 2 = j * 2 + 1 + 1 by omega]
      simp [ePr]
theorem Els.blk {α : Type} {E : Enc α} {w : World} {g : Nat} {t : TypeId} {l : List α} {n : Nat} (h : Blk w g t (E.cells l).toArray) (hn : l.length = n) (h63 : n ≤ 1048576) : Els E w (some ⟨g, 0, none⟩) n n l := by
  refine ⟨⟨by rw [Enc.cells_len, hn], fun _ => ⟨_, rfl, h.lt, fun j u hj => ?_⟩⟩, hn, Nat.le_refl _, by omega⟩
  rw [add_head, h.cell j, ← hj]
  simp
theorem made_pairs (n : Nat) : madeCells #[.int .u16 0, .int .u16 0] (n * 2) = (ePr.cells (List.replicate n (0, 0))).toArray := by
  apply Array.toList_inj.1
  apply List.ext_getElem?
  intro i
  have hl : (ePr.cells (List.replicate n (0, 0))).length = n * 2 := by rw [Enc.cells_len, List.length_replicate]; rfl
  rcases Nat.lt_or_ge i (n * 2) with h | h
  · have h1 := Enc.cells_at (E := ePr) (List.replicate n (0, 0)) (i / 2) (i % 2) (by rw [List.length_replicate]; omega) (by show _ < 2; omega)
    rw [show i / 2 * ePr.size + i % 2 = i by show i / 2 * 2 + i % 2 = i; omega] at h1
    rw [h1]
    rcases Nat.mod_two_eq_zero_or_one i with e | e <;> rw [e] <;> simp [madeCells, ePr, h, e]
  · rw [List.getElem?_eq_none (by simpa [madeCells] using h), List.getElem?_eq_none (by simpa [hl] using h)]
theorem make_pairs (n : Nat) (hn : n ≤ 1048576) (w : World) : (Instr.makeSlice 22 (.int .i64 (n : Int)) (.int .i64 (n : Int))).run Tryd.prog w = .ok (.slice (some ⟨w.heap.size, 0, none⟩) n n) (w.alloc (.cells (ePr.cells (List.replicate n (0, 0))).toArray 41)) := by
  obtain ⟨i0, hi, hz0, hz1, hz2⟩ := info_parts ePr_info
  have hb : (i0.bytes : Int) * (n : Int) ≤ 281474976710656 := by rw [hz2]; omega
  have hr := run_make (P := Tryd.prog) w 22 41 i0 _ Tryd.underlying22 hi hz0 .i64 .i64 n n (by omega) (by omega) hb (by omega)
  simp only [Int.toNat_natCast] at hr
  rw [hr, hz1, ← made_pairs]
  rfl
/-- An append that finds no room leaves all that was. -/
theorem wpList_appFull {α : Type} {E : Enc α} {P : Program} {t e : TypeId} (T : Ty P E t e) {ops : Array Oper} {rest : List Oper} {o : Oper} {a : Act} {w : World} {Q : Exit → Act → World → Prop} (s x : Operand) (hgd : o.guard = none)
    (ho : o.op = .call { callee := .builtin .append, args := #[s, x], argTypes := #[t, t] })
    (ad : Addr) (n : Nat) (l : List α) (hs : a.eval s = .slice (some ad) n n) (hl : Els E w (some ad) n n l) (h0 : 0 < n)
    (a2 : Addr) (m c : Nat) (r : List α) (hx : a.eval x = .slice (some a2) m c) (hb : Els E w (some a2) m c r) (h1 : 0 < m) (hlen : n + m ≤ 1099511627776)
    (h : ∀ A' c' w', w'.ownsRow w.heap.size e E.size (.slice A' (n + m) c') (n + m) (E.cells (l ++ r)) → Ext w w' → wpList P ops Q rest (a.put o.dst (.slice A' (n + m) c')) w') :
    wpList P ops Q (o :: rest) a w := by
  have hby : (n + m) * T.i.bytes ≤ 1099511627776 * 64 := Nat.mul_le_mul hlen T.hby
  obtain ⟨ad', e1, _, hc1⟩ := hl.1.2 h0
  obtain ⟨a2', e2, _, hc2⟩ := hb.1.2 h1
  injection e1 with e1
  injection e2 with e2
  subst e1 e2
  refine wpList_append_grows w hgd s x t ho e T.i T.z E.size T.i.bytes T.under T.hi T.hz T.hsize rfl T.hzs E.pos (some ad) n n (E.cells l) hs (fun h => by cases h) hl.1.1 (fun b hb => by injection hb with hb; subst hb; exact hc1) a2 m c (E.cells r) hx hb.1.1 hc2 (Enc.cells_one _) (by omega) (by unfold maxLen; omega) (by omega) ?_
  intro v' w' hown hg
  obtain ⟨A3, c3, rfl⟩ := own_form hown
  refine h A3 c3 w' (by rw [Enc.cells_append]; exact hown) ?_
  exact ⟨hg.os, hg.tape, hg.output, hg.size, fun b hb => hg.block b hb (by simp)⟩
theorem rE_long (b : List UInt8) (h : 65520 < b.length) : rE b = 4 ∧ rL b = [] := by
  have e : rE b = 4 := by unfold rE; rw [if_pos (by omega)]
  exact ⟨e, rL_off b (by rw [e]; decide)⟩
theorem read_O (A : Option Addr) (n c : Nat) (b : List UInt8) (w : World) (h : Bytes w A n c b) (t : List Pr) (e : rL b = t) (E : Int) (hE : rE b = E) : Calls Tryd.prog 16 #[.slice A n c] w fun e w' =>
    ∃ A' c', e = .returned (.tuple #[.slice A' t.length c', .int .i64 E]) ∧ w'.ownsRow w.heap.size 41 ePr.size (.slice A' t.length c') t.length (ePr.cells t) ∧ Ext w w' := by
  subst e hE
  exact read_any A n c b w h
set_option maxRecDepth 100000 in
set_option maxHeartbeats 2000000 in
theorem law_nackmany (p : Pr) (less : Nat) (hless : less < 65536) (w : World) (ht : Tab w) :
    Calls Tryd.prog 4 #[.agg #[.int .u16 (p.1.toNat : Int), .int .u16 (p.2.toNat : Int)], .int .u16 (less : Int)] w fun e w' => e = .returned (.bool true) ∧ Ext w w' := by
  obtain ⟨T⟩ := tyPr
  obtain ⟨z, hz, hmk⟩ : ∃ z : List Pr, z.length = 16380 ∧ ∀ w, (Instr.makeSlice 22 (.int .i64 16380) (.int .i64 16380)).run Tryd.prog w = .ok (.slice (some ⟨w.heap.size, 0, none⟩) 16380 16380) (w.alloc (.cells (ePr.cells z).toArray 41)) :=
    ⟨_, List.length_replicate, fun w => make_pairs 16380 (by omega) w⟩
  have HREP := hide hz
  clear hz
  obtain ⟨N, hN⟩ : ∃ N : Nat, (16380 : Int) - (less : Int) % 16380 = (N : Int) := ⟨16380 - less % 16380, by omega⟩
  have hN1 : 1 ≤ N := by omega
  have hN2 : N ≤ 16380 := by omega
  obtain ⟨M, hM⟩ : ∃ M : Nat, (16381 : Int) - (N : Int) = (M : Int) := ⟨16381 - N, by omega⟩
  have hM2 : N + M = 16381 := by omega
  have HM2 := hide hM2
  have k1 : IntKind.i64.wrap (4 * (N : Int)) = ((4 * N : Nat) : Int) := by rw [IntWalk.i64_in _ (by omega)]; omega
  have k2 : IntKind.i64.wrap (4 * (M : Int)) = ((4 * M : Nat) : Int) := by rw [IntWalk.i64_in _ (by omega)]; omega
  have hbx := Blk.new w 41 #[.int .u16 (p.1.toNat : Int), .int .u16 (p.2.toNat : Int)]
  have hE0 := (Ext.refl w).alloc (.cells #[.int .u16 (p.1.toNat : Int), .int .u16 (p.2.toNat : Int)] 41)
  have HN := hide hN
  have HM := hide hM
  have K1 := hide k1
  have K2 := hide k2
  clear hM2 hN hM k1 k2
  go_enter Tryd.func4, Tryd.ntmps4
  go_wp2_with fail
  refine (awake15 _ (ht.ext hE0)).mono ?_
  rintro e w1 ⟨rfl, hE1⟩
  replace hbx := hbx.below hE1 (by simp)
  have hE := hE0.trans hE1
  clear hE0 hE1
  obtain ⟨b0, hb0⟩ : ∃ b, w.heap.size = b := ⟨_, rfl⟩
  rw [hb0] at hbx
  go_wp2_with fail
  obtain ⟨g, hg⟩ : ∃ g, w1.heap.size = g := ⟨_, rfl⟩
  have hb1 := hbx.lt
  have hbl := Blk.new w1 41 (ePr.cells z).toArray
  have hbx1 := hbx.alloc (.cells (ePr.cells z).toArray 41)
  replace hE := hE.alloc (.cells (ePr.cells z).toArray 41)
  rw [hg] at hbl hb1 ⊢
  generalize w1.alloc (.cells (ePr.cells z).toArray 41) = w2 at hbl hbx1 hE ⊢
  have HG := hide hg
  have HB0 := hide hb0
  clear hg hb0 hbx hmk
  go_loopw [6] (fun i wr => ∃ (j : Nat) (l : List Pr), j ≤ 16380 ∧ i = .int .i64 j ∧ l.length = 16380 ∧ l.take j = List.replicate j p ∧ Blk wr g 41 (ePr.cells l).toArray ∧ Blk wr b0 41 #[.int .u16 (p.1.toNat : Int), .int .u16 (p.2.toNat : Int)] ∧ Ext w wr) (fun i _ => 16380 - (intOf i).toNat)
  case atStart => exact ⟨0, z, Nat.zero_le _, rfl, HREP.out, rfl, hbl, hbx1, hE⟩
  case round =>
    clear hbl hbx1 hE HREP
    obtain ⟨j, l, hj, rfl, hl, htk, hbl, hbx, hE⟩ := hrel
    have HL := hide hl
    have HTK := hide htk
    clear hl htk
    by_cases hlt : j < 16380
    · have c0 := hbx.cell 0
      have c1 := hbx.cell 1
      obtain ⟨v0, d0⟩ : ∃ v, wr.cell? ⟨g, j * 2, none⟩ = some v := ⟨_, (hbl.cell (j * 2)).trans (by rw [List.getElem?_toArray]; exact List.getElem?_eq_getElem (by rw [Enc.cells_len, HL.out]; show _ < 16380 * 2; omega))⟩
      obtain ⟨v1, d1⟩ : ∃ v, wr.cell? ⟨g, j * 2 + 1, none⟩ = some v := ⟨_, (hbl.cell (j * 2 + 1)).trans (by rw [List.getElem?_toArray]; exact List.getElem?_eq_getElem (by rw [Enc.cells_len, HL.out]; show _ < 16380 * 2; omega))⟩
      have f0 := hbl.frozen (j * 2)
      have f1 := hbl.frozen (j * 2 + 1)
      simp at c0 c1
      have hbl2 := (hbl.set_ (j * 2) (.int .u16 (p.1.toNat : Int))).set_ (j * 2 + 1) (.int .u16 (p.2.toNat : Int))
      have hbx2 := (hbx.far (p := ⟨g, j * 2, none⟩) (by show b0 ≠ g; omega) (.int .u16 (p.1.toNat : Int))).far (p := ⟨g, j * 2 + 1, none⟩) (by show b0 ≠ g; omega) (.int .u16 (p.2.toNat : Int))
      have hE2 := (hE.setCell (p := ⟨g, j * 2, none⟩) (by show w.heap.size ≤ g; rw [HB0.out]; omega) (.int .u16 (p.1.toNat : Int))).setCell (p := ⟨g, j * 2 + 1, none⟩) (by show w.heap.size ≤ g; rw [HB0.out]; omega) (.int .u16 (p.2.toNat : Int))
      rw [List.setIfInBounds_toArray, List.setIfInBounds_toArray, pr_set] at hbl2
      have htk2 : (l.set j p).take (j + 1) = List.replicate (j + 1) p := by
        have hjl : j < l.length := by rw [HL.out]; exact hlt
        rw [List.take_succ_eq_append_getElem (by simpa using hjl), List.take_set_of_le (by omega), HTK.out, List.replicate_succ']
        simp
      have HTK2 := hide htk2
      clear htk2 hbl hbx hE
      go_wp2_with fail
      go_roundw
      case rel => exact ⟨j + 1, l.set j p, by omega, by go_num, by rw [List.length_set]; exact HL.out, HTK2.out, hbl2, hbx2, hE2⟩
      case measure => simp [intOf]; omega
    · obtain rfl : j = 16380 := by omega
      have hlp : l = List.replicate 16380 p := by rw [← HTK.out, List.take_of_length_le (by rw [HL.out]; omega)]
      have S0 := Els.blk hbl HL.out (by omega)
      have S1 := S0.take hN2
      rw [hlp, List.take_replicate, Nat.min_eq_left hN2] at S1
      have hlen := HL.out
      clear hlp
      obtain ⟨y1, y2⟩ := rE_bod (List.replicate N p) (by rw [List.length_replicate]; omega) (by rw [List.length_replicate]; omega)
      obtain ⟨q, hq⟩ : ∃ q, List.replicate N p = q := ⟨_, rfl⟩
      have hql : q.length = N := by rw [← hq, List.length_replicate]
      rw [hq] at S1 y1 y2
      obtain ⟨x, hx⟩ : ∃ x, bod q = x := ⟨_, rfl⟩
      have hxl : x.length = 4 * N := by rw [← hx, wr_len, hql]
      rw [hx] at y1 y2
      have W1 := hide (fun W c A h => write_B A N c q W h (by omega) (by omega) x hx)
      have W2 := hide (fun W c A h => read_O A (4 * N) c x W h q y2 0 y1)
      have W3 := hide (fun W A c => write_no A (16380 + 1) c W (.inr (by omega)))
      obtain ⟨y3, y4⟩ := rE_long (x ++ List.replicate (4 * M) 0) (by rw [List.length_append, List.length_replicate, hxl]; have := HM2.out; omega)
      have W4 := hide (fun W c A h => read_B A (4 * N + 4 * M) c (x ++ List.replicate (4 * M) 0) W h [] y4 4 y3)
      have HQL := hide hql
      clear hq hx y1 y2 y3 y4 hql hxl HL HTK hlen
      have hN := HN.out
      obtain ⟨c0, c1⟩ : wr.cell? ⟨b0, 0, none⟩ = some (.int .u16 (p.1.toNat : Int)) ∧ wr.cell? ⟨b0, 1, none⟩ = some (.int .u16 (p.2.toNat : Int)) := ⟨by simpa using hbx.cell 0, by simpa using hbx.cell 1⟩
      go_wp2_with fail
      refine (W1.out _ _ _ S1).mono ?_
      rintro e w3 ⟨A3, c3, rfl, ho3, hB3, hE3⟩
      have hap := own_apart ho3 (Nat.le_refl _)
      have hAP := fun b (hb : w3.heap.size ≤ b) => own_apart ho3 hb
      have AP := hide hAP
      have hR := hE3
      clear hE3 W1 c0 c1 hN hap hAP
      go_wp2_with fail
      refine (W2.out _ _ _ hB3).mono ?_
      rintro e w4 ⟨A4, c4, rfl, hQ, hE4⟩
      replace hR := hR.trans hE4
      replace ho3 := own_ext ho3 hE4
      replace hbx := hbx.below hR hbx.lt
      have S2 := S0.ext hR
      clear hE4 W2 hB3
      obtain ⟨c0, c1⟩ : w4.cell? ⟨b0, 0, none⟩ = some (.int .u16 (p.1.toNat : Int)) ∧ w4.cell? ⟨b0, 1, none⟩ = some (.int .u16 (p.2.toNat : Int)) := ⟨by simpa using hbx.cell 0, by simpa using hbx.cell 1⟩
      have hlit := Els.lit (E := ePr) (w := w4) (vs := [.int .u16 (p.1.toNat : Int), .int .u16 (p.2.toNat : Int)]) [p] 41 1 rfl rfl (by omega)
      go_wp2_with (at_builtin; refine wpList_appFull T _ _ rfl rfl _ 16380 l rfl (S2.alloc _) (by omega) _ 1 1 [p] rfl hlit (by omega) (by omega) ?_; intro A5 c5 w5 hown5 hE5)
      replace hE5 := ((Ext.refl w4).alloc _).trans hE5
      replace hR := hR.trans hE5
      replace ho3 := own_ext ho3 hE5
      replace hQ := own_ext hQ hE5
      clear hown5 hlit c0 c1 hbl hbx S0 S2 hE5
      refine (W3.out _ _ _).mono ?_
      rintro e w' ⟨rfl, rfl⟩
      have hM := HM.out
      have k2 := K2.out
      have hM3 := HM2.out
      go_wp2_with (at_builtin; refine wpList_appZg wr _ _ rfl rfl hR A3 (4 * N) c3 x rfl ho3 (4 * M) .i64 rfl (by omega) ?_; intro A6 c6 w6 hown6 hE6 hG6)
      replace hQ := Els.own (E := ePr) (own_far hQ hG6 (fun r hr e => AP.out r (own_ge hQ r e) hr))
      replace S1 := S1.ext hE6
      have hB6 := Bytes.own hown6
      clear hR AP ho3 hown6 hG6 hM k2 hM3
      refine (W4.out _ _ _ hB6).mono ?_
      rintro e w7 ⟨A7, c7, rfl, _, hE7⟩
      replace hE6 := hE6.trans hE7
      replace hE := hE.trans hE6
      replace hQ := hQ.ext hE7
      replace S1 := S1.ext hE7
      have k1 := K1.out
      clear W4 W3 hE6 hE7 hB6
      go_wp2_with fail
      refine (same_any _ _ _ _ _ _ _ _ _ hQ S1 true (by simp)).mono ?_
      rintro e w8 ⟨rfl, hE8⟩
      replace hE := hE.trans hE8
      go_wp2_with fail
      go_ret
      exact ⟨rfl, hE⟩
end Go.Proofs.YtiamcdbnhmlhaaaDoor

/- The document's answer for layer 17: Read, Canon. -/
import Derived.Test.YthepndimhiieiaaRembR
import Derived.Test.YthepndimhiieiaaRefNum
namespace Go.Proofs.Ythepndimhiieiaa
open Go.RowKit
set_option maxRecDepth 100000 in
set_option maxHeartbeats 1000000 in
theorem rread17_len (A : Option Addr) (n c : Nat) (w : World) (h : 65520 < n ∨ n % 4 ≠ 0) : Calls Try.prog 48 #[.slice A n c] w fun e w' => e = .returned (.tuple #[.agg #[.int .i64 0, .int .u32 0, .slice none 0 0], .int .i64 4]) ∧ Ext w w' := by
  by_cases h1 : 65520 < n
  · have d1 : (65520 : Int) < (n : Int) := by omega
    go_enter Try.func48, Try.ntmps48
    go_wp2_with fail
    exact bodyPost_ret (v := .tuple #[.agg #[.int .i64 0, .int .u32 0, .slice none 0 0], .int .i64 4]) (by simp [results, Try.results48, go_sem]) rfl ⟨rfl, ((Ext.refl _).alloc _)⟩
  · have d1 : ¬ (65520 : Int) < (n : Int) := by omega
    have d2 : ((n : Int) % 4 != 0) = true := by rw [bne_iff_ne]; omega
    go_enter Try.func48, Try.ntmps48
    go_wp2_with fail
    exact bodyPost_ret (v := .tuple #[.agg #[.int .i64 0, .int .u32 0, .slice none 0 0], .int .i64 4]) (by simp [results, Try.results48, go_sem]) rfl ⟨rfl, ((Ext.refl _).alloc _)⟩
set_option maxRecDepth 100000 in
set_option maxHeartbeats 1000000 in
theorem rread17_short (A : Option Addr) (n c : Nat) (w : World) (h : n < 8) (h4 : n % 4 = 0) : Calls Try.prog 48 #[.slice A n c] w fun e w' => e = .returned (.tuple #[.agg #[.int .i64 0, .int .u32 0, .slice none 0 0], .int .i64 2]) ∧ Ext w w' := by
  have d1 : ¬ (65520 : Int) < (n : Int) := by omega
  have d2 : ((n : Int) % 4 != 0) = false := by rw [bne_eq_false_iff_eq]; omega
  have d3 : (n : Int) < 8 := by omega
  go_enter Try.func48, Try.ntmps48
  go_wp2_with fail
  exact bodyPost_ret (v := .tuple #[.agg #[.int .i64 0, .int .u32 0, .slice none 0 0], .int .i64 2]) (by simp [results, Try.results48, go_sem]) rfl ⟨rfl, ((Ext.refl _).alloc _)⟩
theorem remb4 (b : List UInt8) (h : 8 ≤ b.length) : b.take 4 = [82, 69, 77, 66] ↔ ((b.getD 0 0).toNat = 82 ∧ (b.getD 1 0).toNat = 69 ∧ (b.getD 2 0).toNat = 77 ∧ (b.getD 3 0).toNat = 66) := by
  match b, h with
  | a0 :: a1 :: a2 :: a3 :: r, _ =>
    simp [← UInt8.toNat_inj]
set_option maxRecDepth 100000 in
set_option maxHeartbeats 2000000 in
theorem rread17_magic (g o n c : Nat) (b : List UInt8) (w : World) (hb : Bytes w (some ⟨g, o, none⟩) n c b) (h8 : 8 ≤ n) (hN : n ≤ 65520) (h4 : n % 4 = 0) (ht : b.take 4 ≠ [82, 69, 77, 66]) : Calls Try.prog 48 #[.slice (some ⟨g, o, none⟩) n c] w fun e w' => e = .returned (.tuple #[.agg #[.int .i64 0, .int .u32 0, .slice none 0 0], .int .i64 6]) ∧ Ext w w' := by
  have hb1 := hb.alloc (.cells #[.int .i64 0, .int .u32 0, .slice none 0 0] 84)
  have c0 := hb1.cellZero (by omega)
  have c1 := hb1.cellAt 1 (by omega)
  have c2 := hb1.cellAt 2 (by omega)
  have c3 := hb1.cellAt 3 (by omega)
  rw [Ne, remb4 b (by rw [hb.len]; exact h8)] at ht
  obtain ⟨y0, e0⟩ : ∃ y, (b.getD 0 0).toNat = y := ⟨_, rfl⟩
  obtain ⟨y1, e1⟩ : ∃ y, (b.getD 1 0).toNat = y := ⟨_, rfl⟩
  obtain ⟨y2, e2⟩ : ∃ y, (b.getD 2 0).toNat = y := ⟨_, rfl⟩
  obtain ⟨y3, e3⟩ : ∃ y, (b.getD 3 0).toNat = y := ⟨_, rfl⟩
  rw [e0, e1, e2, e3] at ht
  rw [e0] at c0
  rw [e1] at c1
  rw [e2] at c2
  rw [e3] at c3
  have d1 : ¬ (65520 : Int) < (n : Int) := by omega
  have d2 : ((n : Int) % 4 != 0) = false := by rw [bne_eq_false_iff_eq]; omega
  have d3 : ¬ (n : Int) < 8 := by omega
  have n1 : (1 : Int) < (n : Int) := by omega
  have n2 : (2 : Int) < (n : Int) := by omega
  have n3 : (3 : Int) < (n : Int) := by omega
  have n0 : 0 < n := by omega
  clear e0 e1 e2 e3
  have hh : ((y0 : Int) != 82) = true ∨ (((y0 : Int) != 82) = false ∧ ((y1 : Int) != 69) = true) ∨ (((y0 : Int) != 82) = false ∧ ((y1 : Int) != 69) = false ∧ ((y2 : Int) != 77) = true) ∨ (((y0 : Int) != 82) = false ∧ ((y1 : Int) != 69) = false ∧ ((y2 : Int) != 77) = false ∧ ((y3 : Int) != 66) = true) := by
    simp only [bne_iff_ne, bne_eq_false_iff_eq]
    omega
  clear ht
  rcases hh with q0 | ⟨q0, q1⟩ | ⟨q0, q1, q2⟩ | ⟨q0, q1, q2, q3⟩
  all_goals
    go_enter Try.func48, Try.ntmps48
    go_wp2_with fail
    exact bodyPost_ret (v := .tuple #[.agg #[.int .i64 0, .int .u32 0, .slice none 0 0], .int .i64 6]) (by simp [results, Try.results48, go_sem]) rfl ⟨rfl, ((Ext.refl _).alloc _)⟩
set_option maxRecDepth 100000 in
set_option maxHeartbeats 2000000 in
theorem rread17_many (g o n c : Nat) (b : List UInt8) (w : World) (hb : Bytes w (some ⟨g, o, none⟩) n c b) (h8 : 8 ≤ n) (hN : n ≤ 65520) (h4 : n % 4 = 0) (ht : b.take 4 = [82, 69, 77, 66]) (E : Int) (hE : (n / 4 - 2 < (b.getD 4 0).toNat ∧ E = 2) ∨ ((b.getD 4 0).toNat < n / 4 - 2 ∧ E = 4)) : Calls Try.prog 48 #[.slice (some ⟨g, o, none⟩) n c] w fun e w' => e = .returned (.tuple #[.agg #[.int .i64 0, .int .u32 0, .slice none 0 0], .int .i64 E]) ∧ Ext w w' := by
  have hb1 := hb.alloc (.cells #[.int .i64 0, .int .u32 0, .slice none 0 0] 84)
  have c0 := hb1.cellZero (by omega)
  have c1 := hb1.cellAt 1 (by omega)
  have c2 := hb1.cellAt 2 (by omega)
  have c3 := hb1.cellAt 3 (by omega)
  have c4 := hb1.cellAt 4 (by omega)
  obtain ⟨q0, q1, q2, q3⟩ := (remb4 b (by rw [hb.len]; exact h8)).1 ht
  rw [q0] at c0
  rw [q1] at c1
  rw [q2] at c2
  rw [q3] at c3
  obtain ⟨k, hk⟩ : ∃ k, (b.getD 4 0).toNat = k := ⟨_, rfl⟩
  have hk2 := (b.getD 4 0).toNat_lt
  rw [hk] at c4 hE hk2
  obtain ⟨m, hm⟩ : ∃ m, n / 4 - 2 = m := ⟨_, rfl⟩
  have d1 : ¬ (65520 : Int) < (n : Int) := by omega
  have d2 : ((n : Int) % 4 != 0) = false := by rw [bne_eq_false_iff_eq]; omega
  have d3 : ¬ (n : Int) < 8 := by omega
  have n0 : 0 < n := by omega
  have n1 : (1 : Int) < (n : Int) := by omega
  have n2 : (2 : Int) < (n : Int) := by omega
  have n3 : (3 : Int) < (n : Int) := by omega
  have n4 : (4 : Int) < (n : Int) := by omega
  have d4 : ((n : Int) - 8) / 4 = (m : Int) := by omega
  rw [hm] at hE
  clear hk ht hm q0 q1 q2 q3
  rcases hE with ⟨h1, rfl⟩ | ⟨h1, rfl⟩
  · have d6 : (m : Int) < (k : Int) := by omega
    go_enter Try.func48, Try.ntmps48
    go_wp2_with fail
    exact bodyPost_ret (v := .tuple #[.agg #[.int .i64 0, .int .u32 0, .slice none 0 0], .int .i64 2]) (by simp [results, Try.results48, go_sem]) rfl ⟨rfl, ((Ext.refl _).alloc _)⟩
  · have d6 : ¬ (m : Int) < (k : Int) := by omega
    have d7 : (k : Int) < (m : Int) := by omega
    go_enter Try.func48, Try.ntmps48
    go_wp2_with fail
    exact bodyPost_ret (v := .tuple #[.agg #[.int .i64 0, .int .u32 0, .slice none 0 0], .int .i64 4]) (by simp [results, Try.results48, go_sem]) rfl ⟨rfl, ((Ext.refl _).alloc _)⟩
set_option maxRecDepth 100000 in
set_option maxHeartbeats 2000000 in
theorem rread17_ok (m g o n c : Nat) (b : List UInt8) (w : World) (hb : Bytes w (some ⟨g, o, none⟩) n c b) (hn : 8 + 4 * m = n) (hN : n ≤ 65520) (ht : b.take 4 = [82, 69, 77, 66]) (h4 : (b.getD 4 0).toNat = m)
    (X M : Nat) (hX : lsX (getV b 5 3 / 262144) (getV b 5 3 % 262144) = X) (hM : lsM (getV b 5 3 / 262144) (getV b 5 3 % 262144) = M) : Calls Try.prog 48 #[.slice (some ⟨g, o, none⟩) n c] w fun e w' =>
    ∃ A' c', e = .returned (.tuple #[.agg #[.int .i64 (X : Int), .int .u32 (M : Int), .slice A' m c'], .int .i64 0]) ∧ Els e32 w' A' m c' (cs m (b.drop 8)) ∧ Ext w w' := by
  obtain ⟨T⟩ := ty32
  have hlen := hb.len
  have hnc := hb.le
  have hcm := hb.reach
  have hv3 := getV_lt3 b (by omega)
  have hm255 : m < 256 := by have := (b.getD 4 0).toNat_lt; omega
  have hgv : getV b 5 3 = val ((b.drop 5).take 3) := by unfold getV; rw [if_pos (getE_of (by omega) (by omega) (by omega) (by omega))]; rfl
  obtain ⟨V, hV⟩ : ∃ V, getV b 5 3 = V := ⟨_, rfl⟩
  rw [hV] at hX hM hv3 hgv
  have SV := hide (fun W h => rnum_ok (some ⟨g, o, none⟩) n c b 5 3 W h (by omega) (by omega) (by omega) V (by rw [← hgv, UInt32.toNat_ofNat']; omega))
  have hb1 := hb.alloc (.cells #[.int .i64 0, .int .u32 0, .slice none 0 0] 84)
  have c0 := hb1.cellZero (by omega)
  have c1 := hb1.cellAt 1 (by omega)
  have c2 := hb1.cellAt 2 (by omega)
  have c3 := hb1.cellAt 3 (by omega)
  have c4 := hb1.cellAt 4 (by omega)
  obtain ⟨q0, q1, q2, q3⟩ := (remb4 b (by rw [hb.len]; omega)).1 ht
  rw [q0] at c0
  rw [q1] at c1
  rw [q2] at c2
  rw [q3] at c3
  rw [h4] at c4
  have d1 : ¬ (65520 : Int) < (n : Int) := by omega
  have d2 : ((n : Int) % 4 != 0) = false := by rw [bne_eq_false_iff_eq]; omega
  have d3 : ¬ (n : Int) < 8 := by omega
  have n0 : 0 < n := by omega
  have n1 : (1 : Int) < (n : Int) := by omega
  have n2 : (2 : Int) < (n : Int) := by omega
  have n3 : (3 : Int) < (n : Int) := by omega
  have n4 : (4 : Int) < (n : Int) := by omega
  have d4 : ((n : Int) - 8) / 4 = (m : Int) := by omega
  obtain ⟨p, hp⟩ : ∃ p, V / 262144 = p := ⟨_, rfl⟩
  obtain ⟨q, hq⟩ : ∃ q, V % 262144 = q := ⟨_, rfl⟩
  rw [hp, hq] at hX hM
  have hp64 : p < 64 := by omega
  have k1 : (V : Int) / 262144 = (p : Int) := by omega
  have k2 : (V : Int) % 262144 = (q : Int) := by omega
  have hq18 : q < 262144 := by omega
  have HX := hide (And.intro hX (And.intro hM hq18))
  have hz := Blk.new w 84 #[.int .i64 0, .int .u32 0, .slice none 0 0]
  have hR0 := (Ext.refl w).alloc (.cells #[.int .i64 0, .int .u32 0, .slice none 0 0] 84)
  clear hv3 ht h4 q0 q1 q2 q3 hgv hV hX hM hp hq hq18
  go_enter Try.func48, Try.ntmps48
  go_wp2_with fail
  refine (SV.out _ hb1).mono ?_
  rintro e w1 ⟨rfl, rfl⟩
  go_wp2_with fail
  have h7 := Blk.new (w.alloc (.cells #[.int .i64 0, .int .u32 0, .slice none 0 0] 84)) 84 #[.int .i64 (p : Int), .int .u32 (q : Int), .slice none 0 0]
  replace hz := hz.alloc (.cells #[.int .i64 (p : Int), .int .u32 (q : Int), .slice none 0 0] 84)
  have hR := hR0.alloc (.cells #[.int .i64 (p : Int), .int .u32 (q : Int), .slice none 0 0] 84)
  rw [World.size_alloc] at h7
  have hgne : g ≠ w.heap.size + 1 := by have := hb.1.2 n0; obtain ⟨ad, e, hlt, _⟩ := this; cases e; have : g < w.heap.size := hlt; omega
  obtain ⟨g7, hg7⟩ : ∃ g, w.heap.size + 1 = g := ⟨_, rfl⟩
  rw [hg7] at h7 hgne ⊢
  have hle7 : w.heap.size < g7 := by omega
  generalize (w.alloc (.cells #[.int .i64 0, .int .u32 0, .slice none 0 0] 84)).alloc (.cells #[.int .i64 (p : Int), .int .u32 (q : Int), .slice none 0 0] 84) = W0 at *
  clear hg7 c0 c1 c2 c3 c4 hb1 k1 k2 d1 d2 d3 d4 n1 n2 n3 n4 SV hR0
  go_loopw [] (fun wr => ∃ (x1 q1 : Nat), lsX x1 q1 = X ∧ lsM x1 q1 = M ∧ q1 < 262144 ∧ x1 < 64 ∧ Blk wr g7 84 #[.int .i64 (x1 : Int), .int .u32 (q1 : Int), .slice none 0 0] ∧ Blk wr w.heap.size 84 #[.int .i64 0, .int .u32 0, .slice none 0 0] ∧ Ext w wr) (fun wr => (intOf ((wr.cell? ⟨g7, 0, none⟩).getD (.bool false))).toNat)
  case atStart => exact ⟨p, q, HX.out.1, HX.out.2.1, HX.out.2.2, hp64, h7, hz, hR⟩
  case round =>
    clear h7 hz hR HX hp64
    obtain ⟨x1, q1, hX, hM, hq, hx, h7, hz, hR⟩ := hrel
    obtain ⟨⟨u0, u1, u2⟩, uf, _⟩ := h7.three
    by_cases hlt : 0 < x1 ∧ q1 < 131072
    · obtain ⟨e1, e2⟩ := ls_step x1 q1 hlt.1 hlt.2
      have HX := hide (And.intro hX (And.intro hM (And.intro e1 (And.intro e2 (And.intro hlt hx)))))
      have hx0 : (0 : Int) < (x1 : Int) := by omega
      have hx64 : (x1 : Int) < 64 := by omega
      have hqi : (q1 : Int) < 131072 := by omega
      have hqw : IntKind.u32.wrap (2 * (q1 : Int)) = 2 * (q1 : Int) := by rw [IntKind.wrap_u32]; omega
      have k1 : (x1 : Int) - 1 = ((x1 - 1 : Nat) : Int) := by omega
      obtain ⟨xi, hxe⟩ : ∃ xi : Int, (x1 : Int) = xi := ⟨_, rfl⟩
      obtain ⟨qi, hqe⟩ : ∃ qi : Int, (q1 : Int) = qi := ⟨_, rfl⟩
      rw [hxe] at hx0 hx64 u0 k1 h7
      rw [hqe] at hqi hqw u1 h7
      have HK := hide (And.intro k1 (And.intro hxe hqe))
      clear hX hM e1 e2 hlt hx hq hxe hqe k1
      go_wp2_with fail
      have h7' := (h7.set_ 1 (.int .u32 (2 * qi))).set_ 0 (.int .i64 (xi - 1))
      simp only [List.setIfInBounds_toArray, List.set_cons_zero, List.set_cons_succ] at h7'
      have hz' := (hz.far (p := ⟨g7, 1, none⟩) (Nat.ne_of_lt hle7) (.int .u32 (2 * qi))).far (p := ⟨g7, 0, none⟩) (Nat.ne_of_lt hle7) (.int .i64 (xi - 1))
      have hR' := (hR.setCell (p := ⟨g7, 1, none⟩) (Nat.le_of_lt hle7) (.int .u32 (2 * qi))).setCell (p := ⟨g7, 0, none⟩) (Nat.le_of_lt hle7) (.int .i64 (xi - 1))
      obtain ⟨hX, hM, e1, e2, hlt, hx⟩ := HX.out
      obtain ⟨k1, hxe, hqe⟩ := HK.out
      go_roundw
      case rel =>
        refine ⟨x1 - 1, 2 * q1, e1.trans hX, e2.trans hM, by omega, by omega, ?_, hz', hR'⟩
        rw [k1, ← hqe] at h7' ⊢
        exact h7'
      case measure =>
        rw [h7'.cell 0, u0]
        simp [intOf]
        omega
    · obtain ⟨e1, e2⟩ := ls_end x1 q1 hq (by omega)
      obtain rfl : x1 = X := e1.symm.trans hX
      obtain rfl : q1 = M := e2.symm.trans hM
      have hcase : (¬ (0 : Int) < (x1 : Int)) ∨ ((0 : Int) < (x1 : Int) ∧ ¬ (q1 : Int) < 131072) := by omega
      obtain ⟨xi, hxe⟩ : ∃ xi : Int, (x1 : Int) = xi := ⟨_, rfl⟩
      obtain ⟨qi, hqe⟩ : ∃ qi : Int, (q1 : Int) = qi := ⟨_, rfl⟩
      rw [hxe, hqe] at h7
      rw [hxe] at u0
      rw [hqe] at u1
      rw [hxe, hqe] at hcase
      have HXQ := hide (And.intro hxe hqe)
      clear hX hM e1 e2 hlt hx hq hxe hqe
      rcases hcase with hc1 | ⟨hc1, hc2⟩
      all_goals
        go_wp2_with fail
        clear u0 u1 u2 uf
        try clear hc1
        try clear hc2
        go_loopw [7] (fun i wr => ∃ (j : Nat) (A' : Option Addr) (c' : Nat), j ≤ m ∧ i = .int .i64 j ∧ Blk wr g7 84 #[.int .i64 xi, .int .u32 qi, .slice A' j c'] ∧ wr.ownsRow w.heap.size 22 e32.size (.slice A' j c') j (e32.cells (cs j (b.drop 8))) ∧ (∀ q, q < g7 + 1 → (Value.slice A' j c').ownBlock ≠ some q) ∧ Blk wr w.heap.size 84 #[.int .i64 0, .int .u32 0, .slice none 0 0] ∧ Ext w wr) (fun i _ => m - (intOf i).toNat)
        case atStart => exact ⟨0, none, 0, Nat.zero_le _, rfl, h7, World.ownsRow_nil _ _ _ _, fun _ _ => by simp [Value.ownBlock], hz, hR⟩
        case round =>
          clear h7 hz hR
          obtain ⟨j, A', c', hj, rfl, h7, h2, h3, hz, hR⟩ := hrel
          by_cases hlt2 : j < m
          · obtain ⟨q, hq⟩ : ∃ q, UInt32.ofNat (val ((b.drop (8 + 4 * j)).take 4)) = q := ⟨_, rfl⟩
            have hcs := cs_snoc j (b.drop 8)
            rw [List.drop_drop, hq] at hcs
            have HCS := hide hcs
            obtain ⟨a, ha⟩ : ∃ a, 8 + 4 * j = a := ⟨_, rfl⟩
            have e1 : IntKind.i64.wrap (4 * (j : Int)) = 4 * (j : Int) := IntWalk.i64_in _ (by omega)
            have e2 : IntKind.i64.wrap (8 + 4 * (j : Int)) = (a : Int) := by rw [IntWalk.i64_in _ (by omega)]; omega
            have SN := hide (fun W hW => rnum_ok _ n c b a 4 W (hb.ext hW) (by omega) (by omega) (by omega) q.toNat (by rw [← hq, ← ha]))
            clear hcs hq ha
            generalize hL : cs j (b.drop 8) = L at h2
            have HLL := hide hL
            clear hL
            have hR2 := hR
            have hwn : wr.heap.size ≤ wr.heap.size := Nat.le_refl _
            go_wp2_with fail
            obtain ⟨W, hW⟩ : ∃ W, wr = W := ⟨_, rfl⟩
            subst hW
            clear hR
            refine regE_start_at (hR2) (by kernel_rfl) ?_
            have hR := (hR2).drew
            replace h7 := h7.drew
            replace h2 := h2.drew
            replace hz := hz.drew
            generalize hgw : (wr).drew = wr0 at *
            clear hgw
            refine regE_take (i := 0) (v := ?_) rfl (by kernel_rfl) (by kernel_rfl) (by kernel_rfl) (fun _ _ _ h => h) (by rfl) ?_ ?_
            rotate_left
            · intro W hW; go_simp; try with_reducible rfl
            simp only [Act.put, List.setIfInBounds_toArray, List.set_cons_zero, List.set_cons_succ]
            refine regE_take (i := 2) (v := ?_) rfl (by kernel_rfl) (by kernel_rfl) (by kernel_rfl) (fun _ _ _ h => h) (by rfl) ?_ ?_
            rotate_left
            · intro W hW; go_simp; try with_reducible rfl
            simp only [Act.put, List.setIfInBounds_toArray, List.set_cons_zero, List.set_cons_succ]
            refine regE_take (i := 3) (v := ?_) rfl (by kernel_rfl) (by kernel_rfl) (by kernel_rfl) (fun _ _ _ h => h) (by rfl) ?_ ?_
            rotate_left
            · intro W hW; go_simp; try with_reducible rfl
            simp only [Act.put, List.setIfInBounds_toArray, List.set_cons_zero, List.set_cons_succ]
            refine regE_take (i := 4) (v := ?_) rfl (by kernel_rfl) (by kernel_rfl) (by kernel_rfl) (fun _ _ _ h => h) (by rfl) ?_ ?_
            rotate_left
            · intro W hW; go_simp; try with_reducible rfl
            simp only [Act.put, List.setIfInBounds_toArray, List.set_cons_zero, List.set_cons_succ]
            refine regE_take (i := 5) (v := ?_) rfl (by kernel_rfl) (by kernel_rfl) (by kernel_rfl) (fun _ _ _ h => h) (by rfl) ?_ ?_
            rotate_left
            · intro W hW; go_simp; try with_reducible rfl
            simp only [Act.put, List.setIfInBounds_toArray, List.set_cons_zero, List.set_cons_succ]
            refine regE_do2 (i0 := 1) (i1 := 6) (by kernel_rfl) rfl rfl (fun K hK => ?_) (fun K hK => ?_)
            · rw [if_pos (by rfl)]
              have cS := h7.cell 2
              simp at cS
              go_simp
              refine hK.out _ _ hR ?_
              clear hK K
              try simp only [Act.put, List.setIfInBounds_toArray, List.set_cons_zero, List.set_cons_succ]
              refine regE_do (i := 6) rfl (by kernel_rfl) (fun K hK => ?_)
              rw [if_pos (by rfl)]
              go_simp
              refine (SN.out _ hR).mono ?_
              rintro e w' ⟨rfl, rfl⟩
              refine hK.out _ _ hR ?_
              clear hK K
              try simp only [Act.put, List.setIfInBounds_toArray, List.set_cons_zero, List.set_cons_succ]
              refine regE_do (i := 7) rfl (by kernel_rfl) (fun K hK => ?_)
              rw [if_pos (by rfl)]
              go_simp
              have hL := Els.lit (E := e32) (w := wr0) (vs := [.int .u32 (q.toNat : Int)]) [q] 22 1 rfl rfl (by omega)
              obtain ⟨gL, hgL⟩ : ∃ g, wr0.heap.size = g := ⟨_, rfl⟩
              rw [hgL] at hL ⊢
              clear hgL
              refine hK.out _ _ (hR.alloc _) ?_
              clear hK K
              replace hR := hR.alloc (.cells #[.int .u32 (q.toNat : Int)] 22)
              replace h7 := h7.alloc (.cells #[.int .u32 (q.toNat : Int)] 22)
              replace h2 := h2.alloc (.cells #[.int .u32 (q.toNat : Int)] 22)
              replace hz := hz.alloc (.cells #[.int .u32 (q.toNat : Int)] 22)
              generalize hgw : wr0.alloc (.cells #[.int .u32 (q.toNat : Int)] 22) = wr1 at *
              clear hgw
              try simp only [Act.put, List.setIfInBounds_toArray, List.set_cons_zero, List.set_cons_succ]
              refine regE_do (i := 8) rfl (by kernel_rfl) (fun K hK => ?_)
              rw [if_pos (by rfl)]
              refine wp_appEg T w _ _ rfl hR A' j c' L rfl h2 _ 1 1 [q] rfl hL (by omega) ?_
              intro A2 c2 wr2 hown2 hE2 hg2 hk2
              refine hK.out _ _ hE2 ?_
              clear hK K
              replace hR := hE2
              have h3' := fun b (hb : b < g7 + 1) => (hk2 b (by have := h7.lt; omega) (h3 b hb)).1
              replace h7 := (hk2.blk h7 (h3 g7 (by omega))).1
              replace hz := (hk2.blk hz (h3 _ (by omega))).1
              replace h2 := hown2
              clear hg2 hk2 hE2 hown2 hL
              try simp only [Act.put, List.setIfInBounds_toArray, List.set_cons_zero, List.set_cons_succ]
              refine regE_take (i := 9) (v := ?_) rfl (by kernel_rfl) (by kernel_rfl) (by kernel_rfl) (fun _ _ _ h => h) (by rfl) ?_ ?_
              rotate_left
              · intro W hW; go_simp; try with_reducible rfl
              simp only [Act.put, List.setIfInBounds_toArray, List.set_cons_zero, List.set_cons_succ]
              refine regE_do (i := 10) rfl (by kernel_rfl) (fun K hK => ?_)
              rw [if_pos (by rfl)]
              have uS := h7.cell 2
              have vS := h7.frozen 2
              simp at uS
              go_simp
              refine hK.out _ _ (hR.setCell (p := ⟨g7, 2, none⟩) (Nat.le_of_lt hle7) _) ?_
              clear hK K uS vS
              replace hR := hR.setCell (p := ⟨g7, 2, none⟩) (Nat.le_of_lt hle7) (.slice A2 (j + 1) c2)
              replace h7 := h7.set_ 2 (.slice A2 (j + 1) c2)
              simp only [List.setIfInBounds_toArray, List.set_cons_zero, List.set_cons_succ] at h7
              replace h2 := own_set h2 (p := ⟨g7, 2, none⟩) (h3' g7 (by omega)) (.slice A2 (j + 1) c2)
              replace hz := hz.far (p := ⟨g7, 2, none⟩) (fun e => by have e' : _ = g7 := e; omega) (.slice A2 (j + 1) c2)
              generalize hgw : wr2.setCell ⟨g7, 2, none⟩ (.slice A2 (j + 1) c2) = wr3 at *
              clear hgw
              try simp only [Act.put, List.setIfInBounds_toArray, List.set_cons_zero, List.set_cons_succ]
              refine regE_done (by kernel_rfl) ?_
              go_wp2_with fail
              go_roundw
              case rel => exact ⟨j + 1, A2, c2, by omega, by go_num, h7, by rw [HCS.out, HLL.out]; exact h2, h3', hz, hR⟩
              case measure => simp [intOf]; omega
            · rw [if_pos (by rfl)]
              go_simp
              refine (SN.out _ hR).mono ?_
              rintro e w' ⟨rfl, rfl⟩
              refine hK.out _ _ hR ?_
              clear hK K
              try simp only [Act.put, List.setIfInBounds_toArray, List.set_cons_zero, List.set_cons_succ]
              refine regE_do2 (i0 := 1) (i1 := 7) (by kernel_rfl) rfl rfl (fun K hK => ?_) (fun K hK => ?_)
              · rw [if_pos (by rfl)]
                have cS := h7.cell 2
                simp at cS
                go_simp
                refine hK.out _ _ hR ?_
                clear hK K
                try simp only [Act.put, List.setIfInBounds_toArray, List.set_cons_zero, List.set_cons_succ]
                refine regE_do (i := 7) rfl (by kernel_rfl) (fun K hK => ?_)
                rw [if_pos (by rfl)]
                go_simp
                have hL := Els.lit (E := e32) (w := wr0) (vs := [.int .u32 (q.toNat : Int)]) [q] 22 1 rfl rfl (by omega)
                obtain ⟨gL, hgL⟩ : ∃ g, wr0.heap.size = g := ⟨_, rfl⟩
                rw [hgL] at hL ⊢
                clear hgL
                refine hK.out _ _ (hR.alloc _) ?_
                clear hK K
                replace hR := hR.alloc (.cells #[.int .u32 (q.toNat : Int)] 22)
                replace h7 := h7.alloc (.cells #[.int .u32 (q.toNat : Int)] 22)
                replace h2 := h2.alloc (.cells #[.int .u32 (q.toNat : Int)] 22)
                replace hz := hz.alloc (.cells #[.int .u32 (q.toNat : Int)] 22)
                generalize hgw : wr0.alloc (.cells #[.int .u32 (q.toNat : Int)] 22) = wr1 at *
                clear hgw
                try simp only [Act.put, List.setIfInBounds_toArray, List.set_cons_zero, List.set_cons_succ]
                refine regE_do (i := 8) rfl (by kernel_rfl) (fun K hK => ?_)
                rw [if_pos (by rfl)]
                refine wp_appEg T w _ _ rfl hR A' j c' L rfl h2 _ 1 1 [q] rfl hL (by omega) ?_
                intro A2 c2 wr2 hown2 hE2 hg2 hk2
                refine hK.out _ _ hE2 ?_
                clear hK K
                replace hR := hE2
                have h3' := fun b (hb : b < g7 + 1) => (hk2 b (by have := h7.lt; omega) (h3 b hb)).1
                replace h7 := (hk2.blk h7 (h3 g7 (by omega))).1
                replace hz := (hk2.blk hz (h3 _ (by omega))).1
                replace h2 := hown2
                clear hg2 hk2 hE2 hown2 hL
                try simp only [Act.put, List.setIfInBounds_toArray, List.set_cons_zero, List.set_cons_succ]
                refine regE_take (i := 9) (v := ?_) rfl (by kernel_rfl) (by kernel_rfl) (by kernel_rfl) (fun _ _ _ h => h) (by rfl) ?_ ?_
                rotate_left
                · intro W hW; go_simp; try with_reducible rfl
                simp only [Act.put, List.setIfInBounds_toArray, List.set_cons_zero, List.set_cons_succ]
                refine regE_do (i := 10) rfl (by kernel_rfl) (fun K hK => ?_)
                rw [if_pos (by rfl)]
                have uS := h7.cell 2
                have vS := h7.frozen 2
                simp at uS
                go_simp
                refine hK.out _ _ (hR.setCell (p := ⟨g7, 2, none⟩) (Nat.le_of_lt hle7) _) ?_
                clear hK K uS vS
                replace hR := hR.setCell (p := ⟨g7, 2, none⟩) (Nat.le_of_lt hle7) (.slice A2 (j + 1) c2)
                replace h7 := h7.set_ 2 (.slice A2 (j + 1) c2)
                simp only [List.setIfInBounds_toArray, List.set_cons_zero, List.set_cons_succ] at h7
                replace h2 := own_set h2 (p := ⟨g7, 2, none⟩) (h3' g7 (by omega)) (.slice A2 (j + 1) c2)
                replace hz := hz.far (p := ⟨g7, 2, none⟩) (fun e => by have e' : _ = g7 := e; omega) (.slice A2 (j + 1) c2)
                generalize hgw : wr2.setCell ⟨g7, 2, none⟩ (.slice A2 (j + 1) c2) = wr3 at *
                clear hgw
                try simp only [Act.put, List.setIfInBounds_toArray, List.set_cons_zero, List.set_cons_succ]
                refine regE_done (by kernel_rfl) ?_
                go_wp2_with fail
                go_roundw
                case rel => exact ⟨j + 1, A2, c2, by omega, by go_num, h7, by rw [HCS.out, HLL.out]; exact h2, h3', hz, hR⟩
                case measure => simp [intOf]; omega
              · rw [if_pos (by rfl)]
                go_simp
                have hL := Els.lit (E := e32) (w := wr0) (vs := [.int .u32 (q.toNat : Int)]) [q] 22 1 rfl rfl (by omega)
                obtain ⟨gL, hgL⟩ : ∃ g, wr0.heap.size = g := ⟨_, rfl⟩
                rw [hgL] at hL ⊢
                clear hgL
                refine hK.out _ _ (hR.alloc _) ?_
                clear hK K
                replace hR := hR.alloc (.cells #[.int .u32 (q.toNat : Int)] 22)
                replace h7 := h7.alloc (.cells #[.int .u32 (q.toNat : Int)] 22)
                replace h2 := h2.alloc (.cells #[.int .u32 (q.toNat : Int)] 22)
                replace hz := hz.alloc (.cells #[.int .u32 (q.toNat : Int)] 22)
                generalize hgw : wr0.alloc (.cells #[.int .u32 (q.toNat : Int)] 22) = wr1 at *
                clear hgw
                try simp only [Act.put, List.setIfInBounds_toArray, List.set_cons_zero, List.set_cons_succ]
                refine regE_do (i := 1) rfl (by kernel_rfl) (fun K hK => ?_)
                rw [if_pos (by rfl)]
                have cS := h7.cell 2
                simp at cS
                go_simp
                refine hK.out _ _ hR ?_
                clear hK K
                try simp only [Act.put, List.setIfInBounds_toArray, List.set_cons_zero, List.set_cons_succ]
                refine regE_do (i := 8) rfl (by kernel_rfl) (fun K hK => ?_)
                rw [if_pos (by rfl)]
                refine wp_appEg T w _ _ rfl hR A' j c' L rfl h2 _ 1 1 [q] rfl hL (by omega) ?_
                intro A2 c2 wr2 hown2 hE2 hg2 hk2
                refine hK.out _ _ hE2 ?_
                clear hK K
                replace hR := hE2
                have h3' := fun b (hb : b < g7 + 1) => (hk2 b (by have := h7.lt; omega) (h3 b hb)).1
                replace h7 := (hk2.blk h7 (h3 g7 (by omega))).1
                replace hz := (hk2.blk hz (h3 _ (by omega))).1
                replace h2 := hown2
                clear hg2 hk2 hE2 hown2 hL
                try simp only [Act.put, List.setIfInBounds_toArray, List.set_cons_zero, List.set_cons_succ]
                refine regE_take (i := 9) (v := ?_) rfl (by kernel_rfl) (by kernel_rfl) (by kernel_rfl) (fun _ _ _ h => h) (by rfl) ?_ ?_
                rotate_left
                · intro W hW; go_simp; try with_reducible rfl
                simp only [Act.put, List.setIfInBounds_toArray, List.set_cons_zero, List.set_cons_succ]
                refine regE_do (i := 10) rfl (by kernel_rfl) (fun K hK => ?_)
                rw [if_pos (by rfl)]
                have uS := h7.cell 2
                have vS := h7.frozen 2
                simp at uS
                go_simp
                refine hK.out _ _ (hR.setCell (p := ⟨g7, 2, none⟩) (Nat.le_of_lt hle7) _) ?_
                clear hK K uS vS
                replace hR := hR.setCell (p := ⟨g7, 2, none⟩) (Nat.le_of_lt hle7) (.slice A2 (j + 1) c2)
                replace h7 := h7.set_ 2 (.slice A2 (j + 1) c2)
                simp only [List.setIfInBounds_toArray, List.set_cons_zero, List.set_cons_succ] at h7
                replace h2 := own_set h2 (p := ⟨g7, 2, none⟩) (h3' g7 (by omega)) (.slice A2 (j + 1) c2)
                replace hz := hz.far (p := ⟨g7, 2, none⟩) (fun e => by have e' : _ = g7 := e; omega) (.slice A2 (j + 1) c2)
                generalize hgw : wr2.setCell ⟨g7, 2, none⟩ (.slice A2 (j + 1) c2) = wr3 at *
                clear hgw
                try simp only [Act.put, List.setIfInBounds_toArray, List.set_cons_zero, List.set_cons_succ]
                refine regE_done (by kernel_rfl) ?_
                go_wp2_with fail
                go_roundw
                case rel => exact ⟨j + 1, A2, c2, by omega, by go_num, h7, by rw [HCS.out, HLL.out]; exact h2, h3', hz, hR⟩
                case measure => simp [intOf]; omega
          · obtain rfl : j = m := by omega
            obtain ⟨⟨u0, u1, u2⟩, v7, hl7⟩ := h7.three
            obtain ⟨⟨r0, r1, r2⟩, rf, hlz⟩ := hz.three
            have hzf : Blk (((wr.setCell ⟨w.heap.size, 0, none⟩ (.int .i64 xi)).setCell ⟨w.heap.size, 1, none⟩ (.int .u32 qi)).setCell ⟨w.heap.size, 2, none⟩ (.slice A' j c')) w.heap.size _ _ := ((hz.set_ 0 _).set_ 1 _).set_ 2 _
            simp only [List.setIfInBounds_toArray, List.set_cons_zero, List.set_cons_succ] at hzf
            have hne := h3 w.heap.size (by omega)
            have h2f : (((wr.setCell ⟨w.heap.size, 0, none⟩ (.int .i64 xi)).setCell ⟨w.heap.size, 1, none⟩ (.int .u32 qi)).setCell ⟨w.heap.size, 2, none⟩ (.slice A' j c')).ownsRow _ _ _ _ _ _ := own_set (own_set (own_set h2 hne _) hne _) hne _
            have hBf : Ext w (((wr.setCell ⟨w.heap.size, 0, none⟩ (.int .i64 xi)).setCell ⟨w.heap.size, 1, none⟩ (.int .u32 qi)).setCell ⟨w.heap.size, 2, none⟩ (.slice A' j c')) := ((hR.setCell (p := ⟨w.heap.size, 0, none⟩) (Nat.le_refl _) _).setCell (p := ⟨w.heap.size, 1, none⟩) (Nat.le_refl _) _).setCell (p := ⟨w.heap.size, 2, none⟩) (Nat.le_refl _) _
            go_wp2_with fail
            clear u0 u1 u2 v7 hl7 r0 r1 r2 rf hlz
            generalize hgw : (((wr.setCell ⟨w.heap.size, 0, none⟩ (.int .i64 xi)).setCell ⟨w.heap.size, 1, none⟩ (.int .u32 qi)).setCell ⟨w.heap.size, 2, none⟩ (.slice A' j c')) = Wf at *
            clear hgw
            obtain ⟨⟨u0, u1, u2⟩, _, _⟩ := hzf.three
            exact bodyPost_ret (v := .tuple #[.agg #[.int .i64 xi, .int .u32 qi, .slice A' j c'], .int .i64 0]) (by simp [results, Try.results48, go_sem, u0, u1, u2]) rfl ⟨A', c', by rw [HXQ.out.1, HXQ.out.2], Els.own (E := e32) h2f, hBf⟩
end Go.Proofs.Ythepndimhiieiaa

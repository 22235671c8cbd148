/- remb.Canon of a body that is read; the fixed answer of layer 17. -/
import Derived.Test.YthepndimhiieiaaRembRd
namespace Go.Proofs.Ythepndimhiieiaa
open Go.RowKit
set_option maxRecDepth 100000 in
set_option maxHeartbeats 2000000 in
theorem canon17_ok (m g o n c : Nat) (b : List UInt8) (w : World) (hb : Bytes w (some ⟨g, o, none⟩) n c b) (hn : 8 + 4 * m = n) (hN : n ≤ 65520) (ht : b.take 4 = [82, 69, 77, 66]) (h4 : (b.getD 4 0).toNat = m)
    (p q X M : Nat) (hp : getV b 5 3 / 262144 = p) (hq : getV b 5 3 % 262144 = q) (hX : lsX p q = X) (hM : lsM p q = M) (r : Bool) (hr : decide (p = X ∧ q = M) = r) : Calls Try.prog 51 #[.slice (some ⟨g, o, none⟩) n c] w fun e w' => e = .returned (.bool r) ∧ Ext w w' := by
  have SR := hide (fun W h => read17_ok m g o n c b W h hn hN ht h4 X M (by rw [hp, hq]; exact hX) (by rw [hp, hq]; exact hM))
  have ST := hide (fun W h => told17 (some ⟨g, o, none⟩) n c b W h (by omega) p q hp hq)
  clear hn hN ht h4 hp hq hX hM
  have hcase : (((p : Int) == (X : Int)) = true ∧ ((q : Int) == (M : Int)) = r) ∨ (((p : Int) == (X : Int)) = false ∧ r = false) := by
    by_cases h1 : p = X
    · refine .inl ⟨beq_iff_eq.2 (by omega), ?_⟩
      rw [← hr]
      by_cases h2 : q = M
      · rw [decide_eq_true ⟨h1, h2⟩]; exact beq_iff_eq.2 (by omega)
      · rw [decide_eq_false fun h => h2 h.2]; exact beq_eq_false_iff_ne.2 (by omega)
    · exact .inr ⟨beq_eq_false_iff_ne.2 (by omega), by rw [← hr]; exact decide_eq_false fun h => h1 h.1⟩
  clear hr
  go_enter Try.func51, Try.ntmps51
  go_wp2_with fail
  refine (SR.out _ hb).mono ?_
  rintro e w1 ⟨A', c', rfl, _, hE⟩
  have hbx := Blk.new w1 84 #[.int .i64 (X : Int), .int .u32 (M : Int), .slice A' m c']
  have hE2 := hE.alloc (.cells #[.int .i64 (X : Int), .int .u32 (M : Int), .slice A' m c'] 84)
  obtain ⟨⟨u0, u1, u2⟩, _, _⟩ := hbx.three
  go_wp2_with fail
  refine (ST.out _ (hb.ext hE2)).mono ?_
  rintro e w2 ⟨rfl, rfl⟩
  rcases hcase with ⟨k1, k2⟩ | ⟨k1, rfl⟩
  · go_wp2_with fail
    go_ret
    exact ⟨rfl, hE2⟩
  · go_wp2_with fail
    go_ret
    exact ⟨rfl, hE2⟩
theorem own_setK {w : World} {base : Nat} {e : TypeId} {A : Option Addr} {n c : Nat} {l : List UInt8} (k : Nat) (hk : k < n) (a : UInt8) (h : w.ownsRow base e 1 (.slice A n c) n (l.map Bv)) :
    ∃ g, A = some ⟨g, 0, none⟩ ∧ base ≤ g ∧ g < w.heap.size ∧ (∃ u, w.cell? ⟨g, k, none⟩ = some u) ∧ w.frozen? ⟨g, k, none⟩ = false ∧ (w.setCell ⟨g, k, none⟩ (Bv a)).ownsRow base e 1 (.slice A n c) n ((l.set k a).map Bv) := by
  have hlen := h.1
  rcases h.2 with ⟨_, hx⟩ | ⟨g, cap, cur, hv, hb, hg, hn, hm, hs, ht⟩
  · omega
  · injection hv with hA _ hc
    subst hA hc
    have hB : Blk w g e cur := hg
    have hkc : k < cur.size := by
      have := congrArg List.length ht
      simp at this hlen
      omega
    refine ⟨g, rfl, hb, hB.lt, ⟨cur[k], by rw [hB.cell k]; simp [hkc]⟩, hB.frozen k, by simpa using hlen, .inr ⟨g, c, _, rfl, hb, hB.set_ k _, hn, hm, by simpa using hs, ?_⟩⟩
    rw [Array.toList_setIfInBounds, List.take_set, ht, List.map_set]
namespace Aw17
def bs : List UInt8 := [82, 69, 77, 66, 1, 6, 0, 0, 0, 0, 0, 9]
def bx : List UInt8 := [82, 69, 77, 66, 1, 13, 0, 0, 0, 0, 0, 9]
theorem e1 : rbBytes 1 131072 [9] = bs := by decide +kernel
theorem e2 : rbRight ((1 : Nat) : Int) 131072 1 = true := by decide +kernel
theorem e3 : getV bs 5 3 / 262144 = 1 ∧ getV bs 5 3 % 262144 = 131072 ∧ lsX 1 131072 = 1 ∧ lsM 1 131072 = 131072 := by decide +kernel
theorem e4 : getV bx 5 3 / 262144 = 3 ∧ getV bx 5 3 % 262144 = 65536 ∧ lsX 3 65536 = 2 ∧ lsM 3 65536 = 131072 := by decide +kernel
theorem e5 : cs 1 (bs.drop 8) = [9] ∧ cs 1 (bx.drop 8) = [9] := by decide +kernel
theorem aw0 (W : World) : Calls Try.prog 53 #[.int .u64 262145] W fun e w' => e = .returned (.agg #[.int .i64 1, .int .u32 (131072 : Int), .slice none 0 0]) ∧ Ext W w' :=
  of17 262145 (by decide) 1 131072 (by decide +kernel) (by decide +kernel) W
theorem aw1 (W : World) (A : Option Addr) (c : Nat) (h : Els e32 W A 1 c [9]) : Calls Try.prog 45 #[.agg #[.int .i64 1, .int .u32 (131072 : Int), .slice A 1 c]] W fun e w' => ∃ A' c', e = .returned (.tuple #[.slice A' 12 c', .int .i64 0]) ∧ Bytes w' A' 12 c' bs ∧ Ext W w' :=
  write17_B 1 131072 [9] A c 1 W h e2 bs e1
theorem aw2 (W : World) (g o c : Nat) (h : Bytes W (some ⟨g, o, none⟩) 12 c bs) : Calls Try.prog 47 #[.slice (some ⟨g, o, none⟩) 12 c] W fun e w' => ∃ A' c', e = .returned (.tuple #[.agg #[.int .i64 1, .int .u32 (131072 : Int), .slice A' 1 c'], .int .i64 0]) ∧ Els e32 w' A' 1 c' [9] ∧ Ext W w' := by
  have := read17_ok 1 g o 12 c bs W h rfl (by omega) rfl rfl 1 131072 (by rw [e3.1, e3.2.1]; exact e3.2.2.1) (by rw [e3.1, e3.2.1]; exact e3.2.2.2)
  rw [e5.1] at this
  exact this
theorem aw3 (W : World) (g o c : Nat) (h : Bytes W (some ⟨g, o, none⟩) 12 c bx) : Calls Try.prog 47 #[.slice (some ⟨g, o, none⟩) 12 c] W fun e w' => ∃ A' c', e = .returned (.tuple #[.agg #[.int .i64 2, .int .u32 (131072 : Int), .slice A' 1 c'], .int .i64 0]) ∧ Els e32 w' A' 1 c' [9] ∧ Ext W w' := by
  have := read17_ok 1 g o 12 c bx W h rfl (by omega) rfl rfl 2 131072 (by rw [e4.1, e4.2.1]; exact e4.2.2.1) (by rw [e4.1, e4.2.1]; exact e4.2.2.2)
  rw [e5.2] at this
  exact this
theorem aw4 (W : World) (A : Option Addr) (c : Nat) (A2 : Option Addr) (c2 : Nat) (h : Els e32 W A 1 c [9]) (h2 : Els e32 W A2 1 c2 [9]) : Calls Try.prog 50 #[.agg #[.int .i64 1, .int .u32 (131072 : Int), .slice A 1 c], .agg #[.int .i64 1, .int .u32 (131072 : Int), .slice A2 1 c2]] W fun e w' => e = .returned (.bool true) ∧ Ext W w' :=
  same17 1 131072 A 1 c [9] 1 131072 A2 1 c2 [9] W h h2 true (by decide)
theorem aw5 (W : World) (A : Option Addr) (c : Nat) : Calls Try.prog 55 #[.agg #[.int .i64 1, .int .u32 (131072 : Int), .slice A 1 c]] W fun e w' => e = .returned (.int .u64 262144) ∧ Ext W w' :=
  value17 1 131072 (by omega) (by omega) A 1 c 262144 (by decide +kernel) W
theorem aw6 (W : World) (g o c : Nat) (h : Bytes W (some ⟨g, o, none⟩) 12 c bs) : Calls Try.prog 51 #[.slice (some ⟨g, o, none⟩) 12 c] W fun e w' => e = .returned (.bool true) ∧ Ext W w' :=
  canon17_ok 1 g o 12 c bs W h rfl (by omega) rfl rfl 1 131072 1 131072 e3.1 e3.2.1 e3.2.2.1 e3.2.2.2 true (by decide)
theorem aw7 (W : World) (g o c : Nat) (h : Bytes W (some ⟨g, o, none⟩) 12 c bx) : Calls Try.prog 51 #[.slice (some ⟨g, o, none⟩) 12 c] W fun e w' => e = .returned (.bool false) ∧ Ext W w' :=
  canon17_ok 1 g o 12 c bx W h rfl (by omega) rfl rfl 3 65536 2 131072 e4.1 e4.2.1 e4.2.2.1 e4.2.2.2 false (by decide)
theorem aw8 (W : World) (A : Option Addr) (c : Nat) : Calls Try.prog 49 #[.agg #[.int .i64 2, .int .u32 (131072 : Int), .slice A 1 c]] W fun e w' => e = .returned (.bool true) ∧ Ext W w' := by
  have := right17 2 131072 A 1 c W
  rwa [show rbRight 2 131072 1 = true by decide +kernel] at this
end Aw17
open Aw17 in
set_option maxRecDepth 100000 in
set_option maxHeartbeats 2000000 in
theorem awake17 (w : World) : Calls Try.prog 43 #[] w fun e w' => e = .returned (.bool true) ∧ Ext w w' := by
  go_enter Try.func43, Try.ntmps43
  go_wp2_with fail
  refine (aw0 _).mono ?_
  rintro e w0 ⟨rfl, hE⟩
  have hbx := (Blk.new w0 84 #[.int .i64 1, .int .u32 (131072 : Int), .slice (some ⟨w0.heap.size + 1, 0, none⟩) 1 1]).alloc (.cells #[.int .u32 9] 22)
  have hl := Els.lit (E := e32) (w := w0.alloc (.cells #[.int .i64 1, .int .u32 (131072 : Int), .slice (some ⟨w0.heap.size + 1, 0, none⟩) 1 1] 84)) (vs := [.int .u32 9]) [9] 22 1 rfl rfl (by omega)
  rw [World.size_alloc] at hl
  replace hE := (hE.alloc (.cells #[.int .i64 1, .int .u32 (131072 : Int), .slice (some ⟨w0.heap.size + 1, 0, none⟩) 1 1] 84)).alloc (.cells #[.int .u32 9] 22)
  go_wp2_with fail
  refine (aw1 _ _ _ hl).mono ?_
  rintro e w1 ⟨A1, c1, rfl, hB, hE2⟩
  obtain ⟨g1, o1, rfl, hg1⟩ := hB.form (by omega)
  have hc1 := hB.le
  have hc2 := hB.reach
  replace hE := hE.trans hE2
  replace hl := hl.ext hE2
  replace hbx := hbx.below hE2 hbx.lt
  clear hE2
  go_wp2_with fail
  refine (aw2 _ _ _ _ hB).mono ?_
  rintro e w2 ⟨A2, c2, rfl, hq, hE2⟩
  replace hE := hE.trans hE2
  replace hl := hl.ext hE2
  replace hB := hB.ext hE2
  replace hbx := hbx.below hE2 hbx.lt
  clear hE2
  have hby := Blk.new w2 84 #[.int .i64 1, .int .u32 (131072 : Int), .slice A2 1 c2]
  obtain ⟨gy, hgy⟩ : ∃ gy, w2.heap.size = gy := ⟨_, rfl⟩
  have hE5 := (Ext.refl w2).alloc (.cells #[.int .i64 1, .int .u32 (131072 : Int), .slice A2 1 c2] 84)
  replace hE := hE.trans hE5
  replace hl := hl.ext hE5
  replace hB := hB.ext hE5
  replace hq := hq.ext hE5
  replace hbx := hbx.below hE5 hbx.lt
  clear hE5
  go_upto_region 7 with fail
  rw [hgy] at hby
  generalize hgw : w2.alloc (.cells #[.int .i64 1, .int .u32 (131072 : Int), .slice A2 1 c2] 84) = w3 at *
  have hgy3 : gy < w3.heap.size := hby.lt
  clear hgw hgy
  go_wp2_with (at_builtin; refine wpList_appB w3 _ _ rfl rfl ((Ext.refl _).alloc _) _ 0 0 _ rfl (own_empty _) _ 12 c1 _ rfl (hB.alloc _) (by omega) ?_; intro Ax cx w4 O4 hE2; rw [Nat.zero_add, List.nil_append] at O4; obtain ⟨gx, hAx, hgx, hlx, ⟨u5, hu5⟩, hf5, O5⟩ := own_setK 5 (by omega) 13 O4; subst hAx; obtain ⟨g6, e6, _, _, ⟨u6, hu6⟩, hf6, _⟩ := own_setK 6 (by omega) 0 O4; obtain rfl : gx = g6 := (by injection e6 with e; injection e); obtain ⟨g7, e7, _, _, ⟨u7, hu7⟩, hf7, _⟩ := own_setK 7 (by omega) 0 O4; obtain rfl : gx = g7 := (by injection e7 with e; injection e); have hcx := (Bytes.own O4).le)
  obtain ⟨g6, e6, _, _, _, _, O6⟩ := own_setK 6 (by omega) 0 O5
  obtain rfl : gx = g6 := by injection e6 with e; injection e
  obtain ⟨g7, e7, _, _, _, _, O7⟩ := own_setK 7 (by omega) 0 O6
  obtain rfl : gx = g7 := by injection e7 with e; injection e
  have hX : Bytes (((w4.setCell ⟨gx, 5, none⟩ (.int .u8 13)).setCell ⟨gx, 6, none⟩ (.int .u8 0)).setCell ⟨gx, 7, none⟩ (.int .u8 0)) (some ⟨gx, 0, none⟩) 12 cx bx := Bytes.own O7
  have hE3 : Ext w3 (((w4.setCell ⟨gx, 5, none⟩ (.int .u8 13)).setCell ⟨gx, 6, none⟩ (.int .u8 0)).setCell ⟨gx, 7, none⟩ (.int .u8 0)) := ((hE2.setCell (p := ⟨gx, 5, none⟩) hgx _).setCell (p := ⟨gx, 6, none⟩) hgx _).setCell (p := ⟨gx, 7, none⟩) hgx _
  clear O4 O5 O6 O7 hu5 hu6 hu7 hf5 hf6 hf7 hE2 e6 e7
  generalize hgw : ((w4.setCell ⟨gx, 5, none⟩ (.int .u8 13)).setCell ⟨gx, 6, none⟩ (.int .u8 0)).setCell ⟨gx, 7, none⟩ (.int .u8 0) = w5 at *
  clear hgw
  replace hE := hE.trans hE3
  replace hl := hl.ext hE3
  replace hB := hB.ext hE3
  replace hq := hq.ext hE3
  replace hbx := hbx.below hE3 hbx.lt
  replace hby := hby.below hE3 hby.lt
  clear hE3
  refine (aw3 _ _ _ _ hX).mono ?_
  rintro e w6 ⟨A6, c6, rfl, hs, hE2⟩
  replace hE := hE.trans hE2
  replace hl := hl.ext hE2
  replace hB := hB.ext hE2
  replace hq := hq.ext hE2
  replace hX := hX.ext hE2
  replace hbx := hbx.below hE2 hbx.lt
  replace hby := hby.below hE2 hby.lt
  clear hE2
  have hbz := Blk.new w6 84 #[.int .i64 2, .int .u32 (131072 : Int), .slice A6 1 c6]
  obtain ⟨gz, hgz⟩ : ∃ gz, w6.heap.size = gz := ⟨_, rfl⟩
  have hE5 := (Ext.refl w6).alloc (.cells #[.int .i64 2, .int .u32 (131072 : Int), .slice A6 1 c6] 84)
  replace hE := hE.trans hE5
  replace hl := hl.ext hE5
  replace hB := hB.ext hE5
  replace hq := hq.ext hE5
  replace hX := hX.ext hE5
  replace hbx := hbx.below hE5 hbx.lt
  replace hby := hby.below hE5 hby.lt
  clear hE5
  go_upto_region 10 with fail
  rw [hgz] at hbz
  generalize hgw : w6.alloc (.cells #[.int .i64 2, .int .u32 (131072 : Int), .slice A6 1 c6] 84) = w7 at *
  clear hgw hgz
  have hB8 := hB.part (lo := 4) (hi := 12) (m := 8) (c' := c1 - 4) (by omega) (by omega) rfl (by omega) (by omega)
  have s1 := run_str hB8
  have hbsq : (⟨(((bs.drop 4).take 8)).toArray⟩ : ByteArray) = ⟨#[1, 6, 0, 0, 0, 0, 0, 9]⟩ := rfl
  rw [hbsq] at s1
  have hc4 : ¬ (c1 = 4) := by omega
  obtain ⟨⟨u0, u1, u2⟩, v2, l2⟩ := hbx.three
  obtain ⟨⟨q0, q1, q2⟩, r2, k2⟩ := hby.three
  obtain ⟨⟨z0, z1, z2⟩, y2, j2⟩ := hbz.three
  clear hB8 hbsq
  go_wp2_with fail
  refine (aw4 _ _ _ _ _ hq hl).mono ?_
  rintro e w8 ⟨rfl, hE2⟩
  clear u0 u1 u2 v2 l2 q0 q1 q2 r2 k2 z0 z1 z2 y2 j2 s1
  replace hE := hE.trans hE2
  replace hB := hB.ext hE2
  replace hX := hX.ext hE2
  replace hbx := hbx.below hE2 hbx.lt
  replace hbz := hbz.below hE2 hbz.lt
  clear hE2
  obtain ⟨⟨u0, u1, u2⟩, v2, l2⟩ := hbx.three
  obtain ⟨⟨z0, z1, z2⟩, y2, j2⟩ := hbz.three
  go_wp2_with fail
  refine (aw5 _ _ _).mono ?_
  rintro e w9 ⟨rfl, hE2⟩
  clear u0 u1 u2 v2 l2 z0 z1 z2 y2 j2
  replace hE := hE.trans hE2
  replace hB := hB.ext hE2
  replace hX := hX.ext hE2
  replace hbz := hbz.below hE2 hbz.lt
  clear hE2
  obtain ⟨⟨z0, z1, z2⟩, y2, j2⟩ := hbz.three
  go_wp2_with fail
  refine (aw6 _ _ _ _ hB).mono ?_
  rintro e w10 ⟨rfl, hE2⟩
  clear z0 z1 z2 y2 j2
  replace hE := hE.trans hE2
  replace hX := hX.ext hE2
  replace hbz := hbz.below hE2 hbz.lt
  clear hE2
  obtain ⟨⟨z0, z1, z2⟩, y2, j2⟩ := hbz.three
  go_wp2_with fail
  refine (aw7 _ _ _ _ hX).mono ?_
  rintro e w11 ⟨rfl, hE2⟩
  clear z0 z1 z2 y2 j2
  replace hE := hE.trans hE2
  replace hbz := hbz.below hE2 hbz.lt
  clear hE2
  obtain ⟨⟨z0, z1, z2⟩, y2, j2⟩ := hbz.three
  go_wp2_with fail
  refine (aw8 _ _ _).mono ?_
  rintro e w12 ⟨rfl, hE2⟩
  go_wp2_with fail
  go_ret
  exact ⟨rfl, hE.trans hE2⟩
end Go.Proofs.Ythepndimhiieiaa

/- HeadBack: the walk. -/
import Derived.Test.YtiamcdbnhmlhaaaHeadAw
import Derived.Test.YtiamcdbnhmlhaaaHeadRd
import Derived.Deep.DeepCutAuto
namespace Go.Proofs.Ytiamcdbnhmlhaaa
open Go.RowKit
theorem hwrite_C (h : Hd) (A : Option Addr) (c : Nat) (n : Nat) (w : World) (hc : Els e32 w A n c h.csrc) (hr : hRight h.typ n = true) (x : List UInt8) (hx : hBytes h = x) (N : Nat) (hN : 12 + 4 * n = N) : Calls Try.prog 28 #[.agg #[.bool h.pad, .bool h.ext, .bool h.mark, .int .i64 h.typ, .int .u16 (h.seq.toNat : Int), .int .u32 (h.time.toNat : Int), .int .u32 (h.ssrc.toNat : Int), .slice A n c]] w fun e w' => ∃ A' c', e = .returned (.tuple #[.slice A' N c', .int .i64 0]) ∧ Bytes w' A' N c' x ∧ Ext w w' := by
  subst hN
  exact hwrite_B h A c n w hc hr x hx
/-- head.Write, right or not. -/
theorem hwrite_gen (h : Hd) (A : Option Addr) (c : Nat) (n : Nat) (w : World) (hc : Els e32 w A n c h.csrc) (r : Bool) (hr : hRight h.typ n = r) : Calls Try.prog 28 #[.agg #[.bool h.pad, .bool h.ext, .bool h.mark, .int .i64 h.typ, .int .u16 (h.seq.toNat : Int), .int .u32 (h.time.toNat : Int), .int .u32 (h.ssrc.toNat : Int), .slice A n c]] w fun e w' => ∃ A' N c' x E, e = .returned (.tuple #[.slice A' N c', .int .i64 E]) ∧ Bytes w' A' N c' x ∧ (r = true → N = 12 + 4 * n ∧ E = 0 ∧ x = hBytes h) ∧ (r = false → N = 0 ∧ E = 1) ∧ Ext w w' := by
  cases r
  · exact (hwrite_no h A n c w hr).mono fun e w' ⟨he, hE⟩ => ⟨none, 0, 0, [], 1, he, Bytes.nil w', (fun e => by cases e), fun _ => ⟨rfl, rfl⟩, hE⟩
  · exact (hwrite_B h A c n w hc hr _ rfl).mono fun e w' ⟨A', c', he, hB, hE⟩ => ⟨A', 12 + 4 * n, c', _, 0, he, hB, fun _ => ⟨rfl, rfl, rfl⟩, (fun e => by cases e), hE⟩
theorem hread_zero (A : Option Addr) (n c : Nat) (b : List UInt8) (w : World) (hb : Bytes w A n c b) (E : Int) (hE0 : hE b = E) (hne : E ≠ 0) : Calls Try.prog 31 #[.slice A n c] w fun e w' => ∃ A' c', e = .returned (.tuple #[.agg #[.bool false, .bool false, .bool false, .int .i64 0, .int .u16 0, .int .u32 0, .int .u32 0, .slice A' 0 c'], .int .i64 0, .int .i64 E]) ∧ Els e32 w' A' 0 c' [] ∧ Ext w w' := by
  obtain ⟨q1, q2⟩ := hE_off b (by rw [hE0]; exact hne)
  exact hread_B A n c b w hb hZero q1 0 q2 E hE0
theorem rsame_zero (A : Option Addr) (c : Nat) (w : World) (h : Els e32 w A 0 c []) : Calls Try.prog 34 #[.agg #[.bool false, .bool false, .bool false, .int .i64 0, .int .u16 0, .int .u32 0, .int .u32 0, .slice A 0 c], .agg #[.bool false, .bool false, .bool false, .int .i64 0, .int .u16 0, .int .u32 0, .int .u32 0, .slice none 0 0]] w fun e w' => e = .returned (.bool true) ∧ Ext w w' :=
  rsame_any hZero hZero A 0 c none 0 0 w h (Els.nil w) true (hSame_self hZero)
theorem Els.empty {α : Type} {E : Enc α} {w w' : World} {A : Option Addr} {c : Nat} (h : Els E w A 0 c []) : Els E w' A 0 c [] := ⟨⟨h.1.1, fun h0 => absurd h0 (by omega)⟩, h.2⟩
set_option maxRecDepth 100000 in
set_option maxHeartbeats 4000000 in
theorem law_headback (h : Hd) (A : Option Addr) (n c : Nat) (k : Hd) (A2 : Option Addr) (n2 c2 : Nat) (A3 : Option Addr) (n3 c3 : Nat) (b : List UInt8) (cut : Nat) (hcut256 : cut < 256) (w : World) (hh : Els e32 w A n c h.csrc) (hk : Els e32 w A2 n2 c2 k.csrc) (hb : Bytes w A3 n3 c3 b) :
    Calls Try.prog 9 #[.agg #[.bool h.pad, .bool h.ext, .bool h.mark, .int .i64 h.typ, .int .u16 (h.seq.toNat : Int), .int .u32 (h.time.toNat : Int), .int .u32 (h.ssrc.toNat : Int), .slice A n c], .agg #[.bool k.pad, .bool k.ext, .bool k.mark, .int .i64 k.typ, .int .u16 (k.seq.toNat : Int), .int .u32 (k.time.toNat : Int), .int .u32 (k.ssrc.toNat : Int), .slice A2 n2 c2], .slice A3 n3 c3, .int .u8 (cut : Int)] w fun e w' => e = .returned (.bool true) ∧ Ext w w' := by
  have hback := hE_back b
  obtain ⟨y, ey⟩ : ∃ y, hH b = y := ⟨_, rfl⟩
  obtain ⟨N, eN⟩ : ∃ y, hN b = y := ⟨_, rfl⟩
  obtain ⟨E, eE⟩ : ∃ y, hE b = y := ⟨_, rfl⟩
  rw [ey, eN, eE] at hback
  have S5 := hide (fun W hb => hread_B A3 n3 c3 b W hb y ey N eN E eE)
  have S5z := hide (fun W hb (hne : E ≠ 0) => hread_zero A3 n3 c3 b W hb E eE hne)
  have HBK := hide hback
  clear ey eN eE hback
  have hbx := (Blk.new w 54 #[.bool h.pad, .bool h.ext, .bool h.mark, .int .i64 h.typ, .int .u16 (h.seq.toNat : Int), .int .u32 (h.time.toNat : Int), .int .u32 (h.ssrc.toNat : Int), .slice A n c]).alloc (.cells #[.bool k.pad, .bool k.ext, .bool k.mark, .int .i64 k.typ, .int .u16 (k.seq.toNat : Int), .int .u32 (k.time.toNat : Int), .int .u32 (k.ssrc.toNat : Int), .slice A2 n2 c2] 54)
  have hbk := Blk.new (w.alloc (.cells #[.bool h.pad, .bool h.ext, .bool h.mark, .int .i64 h.typ, .int .u16 (h.seq.toNat : Int), .int .u32 (h.time.toNat : Int), .int .u32 (h.ssrc.toNat : Int), .slice A n c] 54)) 54 #[.bool k.pad, .bool k.ext, .bool k.mark, .int .i64 k.typ, .int .u16 (k.seq.toNat : Int), .int .u32 (k.time.toNat : Int), .int .u32 (k.ssrc.toNat : Int), .slice A2 n2 c2]
  rw [World.size_alloc] at hbk
  have hE := ((Ext.refl w).alloc (.cells #[.bool h.pad, .bool h.ext, .bool h.mark, .int .i64 h.typ, .int .u16 (h.seq.toNat : Int), .int .u32 (h.time.toNat : Int), .int .u32 (h.ssrc.toNat : Int), .slice A n c] 54)).alloc (.cells #[.bool k.pad, .bool k.ext, .bool k.mark, .int .i64 k.typ, .int .u16 (k.seq.toNat : Int), .int .u32 (k.time.toNat : Int), .int .u32 (k.ssrc.toNat : Int), .slice A2 n2 c2] 54)
  replace hh := hh.ext hE
  replace hk := hk.ext hE
  replace hb := hb.ext hE
  by_cases hbig : 3000 < n3 ∨ 99 < n ∨ 99 < n2
  · have d1 : (3000 : Int) < (n3 : Int) ∨ ((99 : Int) < (n : Int) ∧ ¬ (3000 : Int) < (n3 : Int)) ∨ ((99 : Int) < (n2 : Int) ∧ ¬ (99 : Int) < (n : Int) ∧ ¬ (3000 : Int) < (n3 : Int)) := by omega
    rcases d1 with d1 | ⟨d1, d2⟩ | ⟨d1, d2, d3⟩
    all_goals
      go_enter Try.func9, Try.ntmps9
      go_wp2_with fail
      refine (awake05 _).mono ?_
      rintro e w1 ⟨rfl, hE2⟩
      replace hbx := hbx.below hE2 hbx.lt
      replace hbk := hbk.below hE2 hbk.lt
      obtain ⟨⟨u0, u1, u2, u3, u4, u5, u6, u7⟩, _, _⟩ := hbx.eight
      obtain ⟨⟨v0, v1, v2, v3, v4, v5, v6, v7⟩, _, _⟩ := hbk.eight
      go_wp2_with fail
      go_ret
      exact ⟨rfl, hE.trans hE2⟩
  · have d1 : ¬ 3000 < n3 := by omega
    have d2 : ¬ 99 < n := by omega
    have d3 : ¬ 99 < n2 := by omega
    clear hbig
    obtain ⟨r1, hr1⟩ : ∃ r, hRight h.typ n = r := ⟨_, rfl⟩
    obtain ⟨r2, hr2⟩ : ∃ r, hRight k.typ n2 = r := ⟨_, rfl⟩
    have S1 := hide (fun W hh => hwrite_gen h A c n W hh r1 hr1)
    have S2 := hide (fun W hk => hwrite_gen k A2 c2 n2 W hk r2 hr2)
    have hln := hh.len
    have hlk := hk.len
    have HR1 := hide (And.intro hr1 hln)
    have HR2 := hide (And.intro hr2 hlk)
    clear hr1 hr2 hln hlk
    go_enter Try.func9, Try.ntmps9
    go_wp2_with fail
    refine (awake05 _).mono ?_
    rintro e w1 ⟨rfl, hE2⟩
    replace hE := hE.trans hE2
    replace hh := hh.ext hE2
    replace hk := hk.ext hE2
    replace hb := hb.ext hE2
    replace hbx := hbx.below hE2 hbx.lt
    replace hbk := hbk.below hE2 hbk.lt
    clear hE2
    obtain ⟨⟨u0, u1, u2, u3, u4, u5, u6, u7⟩, _, _⟩ := hbx.eight
    obtain ⟨⟨v0, v1, v2, v3, v4, v5, v6, v7⟩, _, _⟩ := hbk.eight
    go_wp2_with fail
    clear u0 u1 u2 u3 u4 u5 u6 u7 v0 v1 v2 v3 v4 v5 v6 v7
    refine (S1.out _ hh).mono ?_
    rintro e w2 ⟨Ax, Nx, cx, x, Ex, rfl, hX, hy1, hn1, hE2⟩
    have HY1 := hide hy1
    have HN1 := hide hn1
    replace hE := hE.trans hE2
    replace hh := hh.ext hE2
    replace hk := hk.ext hE2
    replace hb := hb.ext hE2
    replace hbx := hbx.below hE2 hbx.lt
    replace hbk := hbk.below hE2 hbk.lt
    clear hE2 S1 hy1 hn1
    obtain ⟨⟨v0, v1, v2, v3, v4, v5, v6, v7⟩, _, _⟩ := hbk.eight
    go_wp2_with fail
    clear v0 v1 v2 v3 v4 v5 v6 v7
    refine (S2.out _ hk).mono ?_
    rintro e w3 ⟨Ay, Ny, cy, x2, Ey, rfl, hX2, hy2, hn2, hE2⟩
    have HY2 := hide hy2
    have HN2 := hide hn2
    replace hE := hE.trans hE2
    replace hh := hh.ext hE2
    replace hk := hk.ext hE2
    replace hb := hb.ext hE2
    replace hX := hX.ext hE2
    replace hbx := hbx.below hE2 hbx.lt
    replace hbk := hbk.below hE2 hbk.lt
    clear hE2 S2 hy2 hn2
    go_upto_if 49 with (fail)
    go_cut [13] (fun _ wx => Ext w3 wx)
    case first =>
      cases hr : r1
      · obtain ⟨rfl, rfl⟩ := HN1.out hr
        go_wp2_with fail
        go_meet
        case rel => exact Ext.refl _
      · obtain ⟨eN0, rfl, ex0⟩ := HY1.out hr
        obtain ⟨hr1, hln⟩ := HR1.out
        rw [hr] at hr1
        have hrl : hRight h.typ h.csrc.length = true := by rw [hln]; exact hr1
        have ex := ex0.symm
        have eN1 := eN0.symm
        clear ex0 eN0
        have hN12 : 12 ≤ Nx := by omega
        have hN3 : Nx ≤ 408 := by omega
        obtain ⟨q1, q2, q3⟩ := hE_bytes h hrl b
        have hcutm : cut % Nx < Nx := Nat.mod_lt _ (by omega)
        have q4 := hE_cut h hrl (cut % Nx) (by rw [hln, eN1]; exact hcutm)
        have hinj : ∀ kr : hRight k.typ k.csrc.length = true, (hBytes h == hBytes k) = hSame h k := fun kr => hBytes_inj h k hrl kr
        rw [ex] at q1 q2 q3 q4
        have HRR := hide (fun s : Bool => show (s != s) = false by cases s <;> rfl)
        rw [hln, eN1] at q3
        have HI := hide hinj
        have HEX := hide ex
        have S7 := hide (fun W A c hX => hread_B A (Nx + n3) c (x ++ b) W hX h q2 Nx q3 0 q1)
        obtain ⟨m, hm⟩ : ∃ m, cut % Nx = m := ⟨_, rfl⟩
        rw [hm] at q4 hcutm
        have S8 := hide (fun W A c hX => hread_zero A m c (x.take m) W hX 2 q4 (by decide))
        have hcm : (cut : Int) % (Nx : Int) = (m : Int) := by omega
        have HCM := hide hcm
        have hxt := hX.take (m := m) (by omega)
        have hxle := hX.le
        clear q1 q2 q3 q4 hinj hrl hr1 hln ex hm hr HN1 HY1 HR1 hcm
        have HEN := hide eN1
        clear eN1
        go_wp2_with (first
          | (at_builtin; refine wpList_appB w3 _ _ rfl rfl ((Ext.refl _).alloc _) _ 0 0 _ rfl (own_empty w3) Ax Nx cx x rfl (hX.alloc _) (by omega) ?_; intro A4 c4 w4 O4 hE4; rw [Nat.zero_add, List.nil_append] at O4)
          | (at_builtin; refine wpList_appB w3 _ _ rfl rfl hE4 A4 Nx c4 x rfl O4 A3 n3 c3 b rfl (hb.ext hE4) (by omega) ?_; intro A5 c5 w5 O5 hE5))
        have hB5 := Bytes.own O5
        clear O4 O5 hE4
        replace hh := hh.ext hE5
        replace hk := hk.ext hE5
        replace hX := hX.ext hE5
        replace hxt := hxt.ext hE5
        replace hX2 := hX2.ext hE5
        replace hbx := hbx.below hE5 hbx.lt
        replace hbk := hbk.below hE5 hbk.lt
        refine (S7.out _ _ _ hB5).mono ?_
        rintro e w6 ⟨A6, c6, rfl, hZ, hE6⟩
        replace hE5 := hE5.trans hE6
        have hg3' := hE5.size
        have hbz := Blk.new w6 54 #[.bool h.pad, .bool h.ext, .bool h.mark, .int .i64 h.typ, .int .u16 (h.seq.toNat : Int), .int .u32 (h.time.toNat : Int), .int .u32 (h.ssrc.toNat : Int), .slice A6 h.csrc.length c6]
        have hE7 := (Ext.refl w6).alloc (.cells #[.bool h.pad, .bool h.ext, .bool h.mark, .int .i64 h.typ, .int .u16 (h.seq.toNat : Int), .int .u32 (h.time.toNat : Int), .int .u32 (h.ssrc.toNat : Int), .slice A6 h.csrc.length c6] 54)
        replace hE6 := hE6.trans hE7
        replace hh := hh.ext hE6
        replace hk := hk.ext hE6
        replace hX := hX.ext hE6
        replace hxt := hxt.ext hE6
        replace hX2 := hX2.ext hE6
        replace hbx := hbx.below hE6 hbx.lt
        replace hbk := hbk.below hE6 hbk.lt
        clear hE6
        replace hE5 := hE5.trans hE7
        replace hZ := hZ.ext hE7
        clear hB5 S7 hE7
        obtain ⟨g13, hg13⟩ : ∃ g, w6.heap.size = g := ⟨_, rfl⟩
        have hg3 : w3.heap.size ≤ g13 := by rw [← hg13]; exact hg3'
        clear hg3'
        rw [hg13] at hbz
        have hN12i : decide ((Nx : Int) < 12) = false := decide_eq_false (by omega)
        go_wp2_with fail
        clear hg13
        generalize hgw : w6.alloc (.cells #[.bool h.pad, .bool h.ext, .bool h.mark, .int .i64 h.typ, .int .u16 (h.seq.toNat : Int), .int .u32 (h.time.toNat : Int), .int .u32 (h.ssrc.toNat : Int), .slice A6 h.csrc.length c6] 54) = w7 at *
        clear hgw
        go_upto_region 9 with fail
        go_cut [92] (fun v wx => v = .bool false ∧ Ext w7 wx)
        case first =>
          clear S5 S5z HBK S8 HCM hxt hxle hcutm
          cases hr2 : r2
          · obtain ⟨rfl, rfl⟩ := HN2.out hr2
            clear HY2 HN2 hr2 HI HR2
            refine regE_start (by kernel_rfl) ?_
            have hR := (Ext.refl w7).drew
            generalize hgw : (w7).drew = wr0 at *
            clear hgw
            refine regE_take (i := 0) (v := ?_) rfl (by kernel_rfl) (by kernel_rfl) (by kernel_rfl) (fun _ _ _ h => h) (by rfl) ?_ ?_
            rotate_left
            · intro W hW; go_simp; try with_reducible rfl
            simp only [Act.put, List.setIfInBounds_toArray, List.set_cons_zero, List.set_cons_succ]
            refine regE_take (i := 1) (v := ?_) rfl (by kernel_rfl) (by kernel_rfl) (by kernel_rfl) (fun _ _ _ h => h) (by rfl) ?_ ?_
            rotate_left
            · intro W hW; go_simp; try with_reducible rfl
            simp only [Act.put, List.setIfInBounds_toArray, List.set_cons_zero, List.set_cons_succ]
            refine regE_take (i := 2) (v := ?_) rfl (by kernel_rfl) (by kernel_rfl) (by kernel_rfl) (fun _ _ _ h => h) (by rfl) ?_ ?_
            rotate_left
            · intro W hW; go_simp; try with_reducible rfl
            simp only [Act.put, List.setIfInBounds_toArray, List.set_cons_zero, List.set_cons_succ]
            refine regE_take (i := 3) (v := ?_) rfl (by kernel_rfl) (by kernel_rfl) (by kernel_rfl) (fun _ _ _ h => h) (by rfl) ?_ ?_
            rotate_left
            · intro W hW; go_simp; try with_reducible rfl
            simp only [Act.put, List.setIfInBounds_toArray, List.set_cons_zero, List.set_cons_succ]
            refine regE_take (i := 4) (v := ?_) rfl (by kernel_rfl) (by kernel_rfl) (by kernel_rfl) (fun _ _ _ h => h) (by rfl) ?_ ?_
            rotate_left
            · intro W hW; go_simp; try with_reducible rfl
            simp only [Act.put, List.setIfInBounds_toArray, List.set_cons_zero, List.set_cons_succ]
            refine regE_take (i := 5) (v := ?_) rfl (by kernel_rfl) (by kernel_rfl) (by kernel_rfl) (fun _ _ _ h => h) (by rfl) ?_ ?_
            rotate_left
            · intro W hW; go_simp; try with_reducible rfl
            simp only [Act.put, List.setIfInBounds_toArray, List.set_cons_zero, List.set_cons_succ]
            refine regE_take (i := 6) (v := ?_) rfl (by kernel_rfl) (by kernel_rfl) (by kernel_rfl) (fun _ _ _ h => h) (by rfl) ?_ ?_
            rotate_left
            · intro W hW; go_simp; try with_reducible rfl
            simp only [Act.put, List.setIfInBounds_toArray, List.set_cons_zero, List.set_cons_succ]
            refine regE_take (i := 7) (v := ?_) rfl (by kernel_rfl) (by kernel_rfl) (by kernel_rfl) (fun _ _ _ h => h) (by rfl) ?_ ?_
            rotate_left
            · intro W hW; go_simp; try with_reducible rfl
            simp only [Act.put, List.setIfInBounds_toArray, List.set_cons_zero, List.set_cons_succ]
            refine regE_take (i := 8) (v := ?_) rfl (by kernel_rfl) (by kernel_rfl) (by kernel_rfl) (fun _ _ _ h => h) (by rfl) ?_ ?_
            rotate_left
            · intro W hW; go_simp; try with_reducible rfl
            simp only [Act.put, List.setIfInBounds_toArray, List.set_cons_zero, List.set_cons_succ]
            refine regE_take (i := 9) (v := ?_) rfl (by kernel_rfl) (by kernel_rfl) (by kernel_rfl) (fun _ _ _ h => h) (by rfl) ?_ ?_
            rotate_left
            · intro W hW; go_simp; try with_reducible rfl
            simp only [Act.put, List.setIfInBounds_toArray, List.set_cons_zero, List.set_cons_succ]
            refine regE_take (i := 10) (v := ?_) rfl (by kernel_rfl) (by kernel_rfl) (by kernel_rfl) (fun _ _ _ h => h) (by rfl) ?_ ?_
            rotate_left
            · intro W hW; go_simp; try with_reducible rfl
            simp only [Act.put, List.setIfInBounds_toArray, List.set_cons_zero, List.set_cons_succ]
            refine regE_take (i := 11) (v := ?_) rfl (by kernel_rfl) (by kernel_rfl) (by kernel_rfl) (fun _ _ _ h => h) (by rfl) ?_ ?_
            rotate_left
            · intro W hW; go_simp; try with_reducible rfl
            simp only [Act.put, List.setIfInBounds_toArray, List.set_cons_zero, List.set_cons_succ]
            refine regE_take (i := 12) (v := ?_) rfl (by kernel_rfl) (by kernel_rfl) (by kernel_rfl) (fun _ _ _ h => h) (by rfl) ?_ ?_
            rotate_left
            · intro W hW; go_simp; try with_reducible rfl
            simp only [Act.put, List.setIfInBounds_toArray, List.set_cons_zero, List.set_cons_succ]
            refine regE_take (i := 13) (v := ?_) rfl (by kernel_rfl) (by kernel_rfl) (by kernel_rfl) (fun _ _ _ h => h) (by rfl) ?_ ?_
            rotate_left
            · intro W hW; obtain ⟨⟨u0, u1, u2, u3, u4, u5, u6, u7⟩, _, _⟩ := (hbz.below hW hbz.lt).eight; go_simp; try with_reducible rfl
            simp only [Act.put, List.setIfInBounds_toArray, List.set_cons_zero, List.set_cons_succ]
            refine regE_take (i := 14) (v := ?_) rfl (by kernel_rfl) (by kernel_rfl) (by kernel_rfl) (fun _ _ _ h => h) (by rfl) ?_ ?_
            rotate_left
            · intro W hW; obtain ⟨⟨u0, u1, u2, u3, u4, u5, u6, u7⟩, _, _⟩ := (hbx.below hW hbx.lt).eight; go_simp; try with_reducible rfl
            simp only [Act.put, List.setIfInBounds_toArray, List.set_cons_zero, List.set_cons_succ]
            refine regE_do (i := 15) rfl (by kernel_rfl) (fun K hK => ?_)
            rw [if_pos (by rfl)]
            go_simp
            refine (rsame_any h h _ _ _ _ _ _ _ (hZ.ext hR) (hh.ext hR) true (hSame_self h)).mono ?_
            rintro e wr1 ⟨rfl, hXX⟩
            refine hK.out _ _ (hR.trans hXX) ?_
            clear hK K
            replace hR := hR.trans hXX
            clear hXX
            try simp only [Act.put, List.setIfInBounds_toArray, List.set_cons_zero, List.set_cons_succ]
            refine regE_take (i := 16) (v := ?_) rfl (by kernel_rfl) (by kernel_rfl) (by kernel_rfl) (fun _ _ _ h => h) (by rfl) ?_ ?_
            rotate_left
            · intro W hW; go_simp; try with_reducible rfl
            simp only [Act.put, List.setIfInBounds_toArray, List.set_cons_zero, List.set_cons_succ]
            refine regE_take (i := 17) (v := ?_) rfl (by kernel_rfl) (by kernel_rfl) (by kernel_rfl) (fun _ _ _ h => h) (by rfl) ?_ ?_
            rotate_left
            · intro W hW; go_simp; try with_reducible rfl
            simp only [Act.put, List.setIfInBounds_toArray, List.set_cons_zero, List.set_cons_succ]
            refine regE_take (i := 18) (v := ?_) rfl (by kernel_rfl) (by kernel_rfl) (by kernel_rfl) (fun _ _ _ h => h) (by rfl) ?_ ?_
            rotate_left
            · intro W hW; go_simp; try with_reducible rfl
            simp only [Act.put, List.setIfInBounds_toArray, List.set_cons_zero, List.set_cons_succ]
            refine regE_take (i := 19) (v := ?_) rfl (by kernel_rfl) (by kernel_rfl) (by kernel_rfl) (fun _ _ _ h => h) (by rfl) ?_ ?_
            rotate_left
            · intro W hW; go_simp; try with_reducible rfl
            simp only [Act.put, List.setIfInBounds_toArray, List.set_cons_zero, List.set_cons_succ]
            refine regE_take (i := 20) (v := ?_) rfl (by kernel_rfl) (by kernel_rfl) (by kernel_rfl) (fun _ _ _ h => h) (by rfl) ?_ ?_
            rotate_left
            · intro W hW; go_simp; try with_reducible rfl
            simp only [Act.put, List.setIfInBounds_toArray, List.set_cons_zero, List.set_cons_succ]
            refine regE_take (i := 21) (v := ?_) rfl (by kernel_rfl) (by kernel_rfl) (by kernel_rfl) (fun _ _ _ h => h) (by rfl) ?_ ?_
            rotate_left
            · intro W hW; go_simp; try with_reducible rfl
            simp only [Act.put, List.setIfInBounds_toArray, List.set_cons_zero, List.set_cons_succ]
            refine regE_skip (i := 22) rfl (by kernel_rfl) (by kernel_rfl) (by kernel_rfl) (fun _ _ _ h => h) (by rfl) ?_
            simp only [Act.put, List.setIfInBounds_toArray, List.set_cons_zero, List.set_cons_succ]
            refine regE_skip (i := 23) rfl (by kernel_rfl) (by kernel_rfl) (by kernel_rfl) (fun _ _ _ h => h) (by rfl) ?_
            simp only [Act.put, List.setIfInBounds_toArray, List.set_cons_zero, List.set_cons_succ]
            refine regE_skip (i := 24) rfl (by kernel_rfl) (by kernel_rfl) (by kernel_rfl) (fun _ _ _ h => h) (by rfl) ?_
            simp only [Act.put, List.setIfInBounds_toArray, List.set_cons_zero, List.set_cons_succ]
            refine regE_skip (i := 25) rfl (by kernel_rfl) (by kernel_rfl) (by kernel_rfl) (fun _ _ _ h => h) (by rfl) ?_
            simp only [Act.put, List.setIfInBounds_toArray, List.set_cons_zero, List.set_cons_succ]
            refine regE_skip (i := 26) rfl (by kernel_rfl) (by kernel_rfl) (by kernel_rfl) (fun _ _ _ h => h) (by rfl) ?_
            simp only [Act.put, List.setIfInBounds_toArray, List.set_cons_zero, List.set_cons_succ]
            refine regE_skip (i := 27) rfl (by kernel_rfl) (by kernel_rfl) (by kernel_rfl) (fun _ _ _ h => h) (by rfl) ?_
            simp only [Act.put, List.setIfInBounds_toArray, List.set_cons_zero, List.set_cons_succ]
            refine regE_skip (i := 28) rfl (by kernel_rfl) (by kernel_rfl) (by kernel_rfl) (fun _ _ _ h => h) (by rfl) ?_
            simp only [Act.put, List.setIfInBounds_toArray, List.set_cons_zero, List.set_cons_succ]
            refine regE_skip (i := 29) rfl (by kernel_rfl) (by kernel_rfl) (by kernel_rfl) (fun _ _ _ h => h) (by rfl) ?_
            simp only [Act.put, List.setIfInBounds_toArray, List.set_cons_zero, List.set_cons_succ]
            refine regE_skip (i := 30) rfl (by kernel_rfl) (by kernel_rfl) (by kernel_rfl) (fun _ _ _ h => h) (by rfl) ?_
            simp only [Act.put, List.setIfInBounds_toArray, List.set_cons_zero, List.set_cons_succ]
            refine regE_take (i := 31) (v := ?_) rfl (by kernel_rfl) (by kernel_rfl) (by kernel_rfl) (fun _ _ _ h => h) (by rfl) ?_ ?_
            rotate_left
            · intro W hW; go_simp; try with_reducible rfl
            simp only [Act.put, List.setIfInBounds_toArray, List.set_cons_zero, List.set_cons_succ]
            refine regE_take (i := 32) (v := ?_) rfl (by kernel_rfl) (by kernel_rfl) (by kernel_rfl) (fun _ _ _ h => h) (by rfl) ?_ ?_
            rotate_left
            · intro W hW; go_simp; try with_reducible rfl
            simp only [Act.put, List.setIfInBounds_toArray, List.set_cons_zero, List.set_cons_succ]
            refine regE_done (by kernel_rfl) ?_
            go_wp2_with fail
            go_meet
            case rel => exact ⟨rfl, hR⟩
          · obtain ⟨rfl, rfl, rfl⟩ := HY2.out hr2
            obtain ⟨hk1, hk2⟩ := HR2.out
            rw [hr2] at hk1
            have hxy := HI.out (by rw [hk2]; exact hk1)
            obtain ⟨x2, ex2⟩ : ∃ x, hBytes k = x := ⟨_, rfl⟩
            obtain ⟨s, hs⟩ : ∃ x, hSame h k = x := ⟨_, rfl⟩
            have HS := hide hs
            rw [hs] at hxy
            have hxy2 : (x == x2) = s := by rw [← ex2, ← HEX.out]; exact hxy
            rw [ex2] at hX2
            have hrr := HRR.out s
            clear HY2 HN2 hr2 HI HR2 hxy ex2 hs hk1 hk2
            refine regE_start (by kernel_rfl) ?_
            have hR := (Ext.refl w7).drew
            generalize hgw : (w7).drew = wr0 at *
            clear hgw
            refine regE_take (i := 0) (v := ?_) rfl (by kernel_rfl) (by kernel_rfl) (by kernel_rfl) (fun _ _ _ h => h) (by rfl) ?_ ?_
            rotate_left
            · intro W hW; go_simp; try with_reducible rfl
            simp only [Act.put, List.setIfInBounds_toArray, List.set_cons_zero, List.set_cons_succ]
            refine regE_take (i := 1) (v := ?_) rfl (by kernel_rfl) (by kernel_rfl) (by kernel_rfl) (fun _ _ _ h => h) (by rfl) ?_ ?_
            rotate_left
            · intro W hW; go_simp; try with_reducible rfl
            simp only [Act.put, List.setIfInBounds_toArray, List.set_cons_zero, List.set_cons_succ]
            refine regE_take (i := 2) (v := ?_) rfl (by kernel_rfl) (by kernel_rfl) (by kernel_rfl) (fun _ _ _ h => h) (by rfl) ?_ ?_
            rotate_left
            · intro W hW; go_simp; try with_reducible rfl
            simp only [Act.put, List.setIfInBounds_toArray, List.set_cons_zero, List.set_cons_succ]
            refine regE_take (i := 3) (v := ?_) rfl (by kernel_rfl) (by kernel_rfl) (by kernel_rfl) (fun _ _ _ h => h) (by rfl) ?_ ?_
            rotate_left
            · intro W hW; go_simp; try with_reducible rfl
            simp only [Act.put, List.setIfInBounds_toArray, List.set_cons_zero, List.set_cons_succ]
            refine regE_take (i := 4) (v := ?_) rfl (by kernel_rfl) (by kernel_rfl) (by kernel_rfl) (fun _ _ _ h => h) (by rfl) ?_ ?_
            rotate_left
            · intro W hW; go_simp; try with_reducible rfl
            simp only [Act.put, List.setIfInBounds_toArray, List.set_cons_zero, List.set_cons_succ]
            refine regE_take (i := 5) (v := ?_) rfl (by kernel_rfl) (by kernel_rfl) (by kernel_rfl) (fun _ _ _ h => h) (by rfl) ?_ ?_
            rotate_left
            · intro W hW; go_simp; try with_reducible rfl
            simp only [Act.put, List.setIfInBounds_toArray, List.set_cons_zero, List.set_cons_succ]
            refine regE_take (i := 6) (v := ?_) rfl (by kernel_rfl) (by kernel_rfl) (by kernel_rfl) (fun _ _ _ h => h) (by rfl) ?_ ?_
            rotate_left
            · intro W hW; go_simp; try with_reducible rfl
            simp only [Act.put, List.setIfInBounds_toArray, List.set_cons_zero, List.set_cons_succ]
            refine regE_take (i := 7) (v := ?_) rfl (by kernel_rfl) (by kernel_rfl) (by kernel_rfl) (fun _ _ _ h => h) (by rfl) ?_ ?_
            rotate_left
            · intro W hW; go_simp; try with_reducible rfl
            simp only [Act.put, List.setIfInBounds_toArray, List.set_cons_zero, List.set_cons_succ]
            refine regE_take (i := 8) (v := ?_) rfl (by kernel_rfl) (by kernel_rfl) (by kernel_rfl) (fun _ _ _ h => h) (by rfl) ?_ ?_
            rotate_left
            · intro W hW; go_simp; try with_reducible rfl
            simp only [Act.put, List.setIfInBounds_toArray, List.set_cons_zero, List.set_cons_succ]
            refine regE_take (i := 9) (v := ?_) rfl (by kernel_rfl) (by kernel_rfl) (by kernel_rfl) (fun _ _ _ h => h) (by rfl) ?_ ?_
            rotate_left
            · intro W hW; go_simp; try with_reducible rfl
            simp only [Act.put, List.setIfInBounds_toArray, List.set_cons_zero, List.set_cons_succ]
            refine regE_take (i := 10) (v := ?_) rfl (by kernel_rfl) (by kernel_rfl) (by kernel_rfl) (fun _ _ _ h => h) (by rfl) ?_ ?_
            rotate_left
            · intro W hW; go_simp; try with_reducible rfl
            simp only [Act.put, List.setIfInBounds_toArray, List.set_cons_zero, List.set_cons_succ]
            refine regE_take (i := 11) (v := ?_) rfl (by kernel_rfl) (by kernel_rfl) (by kernel_rfl) (fun _ _ _ h => h) (by rfl) ?_ ?_
            rotate_left
            · intro W hW; go_simp; try with_reducible rfl
            simp only [Act.put, List.setIfInBounds_toArray, List.set_cons_zero, List.set_cons_succ]
            refine regE_take (i := 12) (v := ?_) rfl (by kernel_rfl) (by kernel_rfl) (by kernel_rfl) (fun _ _ _ h => h) (by rfl) ?_ ?_
            rotate_left
            · intro W hW; go_simp; try with_reducible rfl
            simp only [Act.put, List.setIfInBounds_toArray, List.set_cons_zero, List.set_cons_succ]
            refine regE_take (i := 13) (v := ?_) rfl (by kernel_rfl) (by kernel_rfl) (by kernel_rfl) (fun _ _ _ h => h) (by rfl) ?_ ?_
            rotate_left
            · intro W hW; obtain ⟨⟨u0, u1, u2, u3, u4, u5, u6, u7⟩, _, _⟩ := (hbz.below hW hbz.lt).eight; go_simp; try with_reducible rfl
            simp only [Act.put, List.setIfInBounds_toArray, List.set_cons_zero, List.set_cons_succ]
            refine regE_take (i := 14) (v := ?_) rfl (by kernel_rfl) (by kernel_rfl) (by kernel_rfl) (fun _ _ _ h => h) (by rfl) ?_ ?_
            rotate_left
            · intro W hW; obtain ⟨⟨u0, u1, u2, u3, u4, u5, u6, u7⟩, _, _⟩ := (hbx.below hW hbx.lt).eight; go_simp; try with_reducible rfl
            simp only [Act.put, List.setIfInBounds_toArray, List.set_cons_zero, List.set_cons_succ]
            refine regE_do (i := 15) rfl (by kernel_rfl) (fun K hK => ?_)
            rw [if_pos (by rfl)]
            go_simp
            refine (rsame_any h h _ _ _ _ _ _ _ (hZ.ext hR) (hh.ext hR) true (hSame_self h)).mono ?_
            rintro e wr1 ⟨rfl, hXX⟩
            refine hK.out _ _ (hR.trans hXX) ?_
            clear hK K
            replace hR := hR.trans hXX
            clear hXX
            try simp only [Act.put, List.setIfInBounds_toArray, List.set_cons_zero, List.set_cons_succ]
            refine regE_take (i := 16) (v := ?_) rfl (by kernel_rfl) (by kernel_rfl) (by kernel_rfl) (fun _ _ _ h => h) (by rfl) ?_ ?_
            rotate_left
            · intro W hW; go_simp; try with_reducible rfl
            simp only [Act.put, List.setIfInBounds_toArray, List.set_cons_zero, List.set_cons_succ]
            refine regE_take (i := 17) (v := ?_) rfl (by kernel_rfl) (by kernel_rfl) (by kernel_rfl) (fun _ _ _ h => h) (by rfl) ?_ ?_
            rotate_left
            · intro W hW; go_simp; try with_reducible rfl
            simp only [Act.put, List.setIfInBounds_toArray, List.set_cons_zero, List.set_cons_succ]
            refine regE_take (i := 18) (v := ?_) rfl (by kernel_rfl) (by kernel_rfl) (by kernel_rfl) (fun _ _ _ h => h) (by rfl) ?_ ?_
            rotate_left
            · intro W hW; go_simp; try with_reducible rfl
            simp only [Act.put, List.setIfInBounds_toArray, List.set_cons_zero, List.set_cons_succ]
            refine regE_take (i := 19) (v := ?_) rfl (by kernel_rfl) (by kernel_rfl) (by kernel_rfl) (fun _ _ _ h => h) (by rfl) ?_ ?_
            rotate_left
            · intro W hW; go_simp; try with_reducible rfl
            simp only [Act.put, List.setIfInBounds_toArray, List.set_cons_zero, List.set_cons_succ]
            refine regE_take (i := 20) (v := ?_) rfl (by kernel_rfl) (by kernel_rfl) (by kernel_rfl) (fun _ _ _ h => h) (by rfl) ?_ ?_
            rotate_left
            · intro W hW; go_simp; try with_reducible rfl
            simp only [Act.put, List.setIfInBounds_toArray, List.set_cons_zero, List.set_cons_succ]
            refine regE_take (i := 21) (v := ?_) rfl (by kernel_rfl) (by kernel_rfl) (by kernel_rfl) (fun _ _ _ h => h) (by rfl) ?_ ?_
            rotate_left
            · intro W hW; go_simp; try with_reducible rfl
            simp only [Act.put, List.setIfInBounds_toArray, List.set_cons_zero, List.set_cons_succ]
            refine regE_take (i := 22) (v := ?_) rfl (by kernel_rfl) (by kernel_rfl) (by kernel_rfl) (fun _ _ _ h => h) (by rfl) ?_ ?_
            rotate_left
            · intro W hW; go_simp; try with_reducible rfl
            simp only [Act.put, List.setIfInBounds_toArray, List.set_cons_zero, List.set_cons_succ]
            refine regE_take (i := 23) (v := ?_) rfl (by kernel_rfl) (by kernel_rfl) (by kernel_rfl) (fun _ _ _ h => h) (by rfl) ?_ ?_
            rotate_left
            · intro W hW; have s1 := run_str (hX.ext hW); go_simp; try with_reducible rfl
            simp only [Act.put, List.setIfInBounds_toArray, List.set_cons_zero, List.set_cons_succ]
            refine regE_take (i := 24) (v := ?_) rfl (by kernel_rfl) (by kernel_rfl) (by kernel_rfl) (fun _ _ _ h => h) (by rfl) ?_ ?_
            rotate_left
            · intro W hW; go_simp; try with_reducible rfl
            simp only [Act.put, List.setIfInBounds_toArray, List.set_cons_zero, List.set_cons_succ]
            refine regE_take (i := 25) (v := ?_) rfl (by kernel_rfl) (by kernel_rfl) (by kernel_rfl) (fun _ _ _ h => h) (by rfl) ?_ ?_
            rotate_left
            · intro W hW; have s1 := run_str (hX2.ext hW); go_simp; try with_reducible rfl
            simp only [Act.put, List.setIfInBounds_toArray, List.set_cons_zero, List.set_cons_succ]
            refine regE_take (i := 26) (v := ?_) rfl (by kernel_rfl) (by kernel_rfl) (by kernel_rfl) (fun _ _ _ h => h) (by rfl) ?_ ?_
            rotate_left
            · intro W hW; go_simp; try with_reducible rfl
            simp only [Act.put, List.setIfInBounds_toArray, List.set_cons_zero, List.set_cons_succ]
            refine regE_take (i := 27) (v := ?_) rfl (by kernel_rfl) (by kernel_rfl) (by kernel_rfl) (fun _ _ _ h => h) (by rfl) ?_ ?_
            rotate_left
            · intro W hW; obtain ⟨⟨u0, u1, u2, u3, u4, u5, u6, u7⟩, _, _⟩ := (hbx.below hW hbx.lt).eight; go_simp; try with_reducible rfl
            simp only [Act.put, List.setIfInBounds_toArray, List.set_cons_zero, List.set_cons_succ]
            refine regE_take (i := 28) (v := ?_) rfl (by kernel_rfl) (by kernel_rfl) (by kernel_rfl) (fun _ _ _ h => h) (by rfl) ?_ ?_
            rotate_left
            · intro W hW; obtain ⟨⟨u0, u1, u2, u3, u4, u5, u6, u7⟩, _, _⟩ := (hbk.below hW hbk.lt).eight; go_simp; try with_reducible rfl
            simp only [Act.put, List.setIfInBounds_toArray, List.set_cons_zero, List.set_cons_succ]
            refine regE_do (i := 29) rfl (by kernel_rfl) (fun K hK => ?_)
            rw [if_pos (by rfl)]
            go_simp
            refine (rsame_any h k _ _ _ _ _ _ _ (hh.ext hR) (hk.ext hR) s HS.out).mono ?_
            rintro e wr2 ⟨rfl, hXX⟩
            refine hK.out _ _ (hR.trans hXX) ?_
            clear hK K
            replace hR := hR.trans hXX
            clear hXX
            try simp only [Act.put, List.setIfInBounds_toArray, List.set_cons_zero, List.set_cons_succ]
            refine regE_take (i := 30) (v := ?_) rfl (by kernel_rfl) (by kernel_rfl) (by kernel_rfl) (fun _ _ _ h => h) (by rfl) ?_ ?_
            rotate_left
            · intro W hW; go_simp; try with_reducible rfl
            simp only [Act.put, List.setIfInBounds_toArray, List.set_cons_zero, List.set_cons_succ]
            refine regE_take (i := 31) (v := ?_) rfl (by kernel_rfl) (by kernel_rfl) (by kernel_rfl) (fun _ _ _ h => h) (by rfl) ?_ ?_
            rotate_left
            · intro W hW; go_simp; try with_reducible rfl
            simp only [Act.put, List.setIfInBounds_toArray, List.set_cons_zero, List.set_cons_succ]
            refine regE_take (i := 32) (v := ?_) rfl (by kernel_rfl) (by kernel_rfl) (by kernel_rfl) (fun _ _ _ h => h) (by rfl) ?_ ?_
            rotate_left
            · intro W hW; go_simp; try with_reducible rfl
            simp only [Act.put, List.setIfInBounds_toArray, List.set_cons_zero, List.set_cons_succ]
            refine regE_done (by kernel_rfl) ?_
            go_wp2_with fail
            go_meet
            case rel => exact ⟨rfl, hR⟩
        case rest =>
          obtain ⟨rfl, hE6⟩ := hcut
          replace hE5 := hE5.trans hE6
          replace hbz := hbz.below hE6 hbz.lt
          replace hxt := hxt.ext hE6
          have hcm := HCM.out
          have hc256 : (cut : Int) < 256 := by omega
          have hmx : (m : Int) ≤ (cx : Int) := by omega
          have hN1p : (0 : Int) < (Nx : Int) := by omega
          clear hE6 hZ hh hk hX hX2 hbx hbk HI HEX HRR
          go_wp2_with fail
          refine (S8.out _ _ _ hxt).mono ?_
          rintro e w8 ⟨A8, c8, rfl, hZ8, hE8⟩
          replace hE5 := hE5.trans hE8
          replace hbz := hbz.below hE8 hbz.lt
          clear hE8 hxt S8 hcm
          obtain ⟨⟨u0, u1, u2, u3, u4, u5, u6, u7⟩, v7, hl7⟩ := hbz.eight
          have hbz2 : Blk ((((((((w8.setCell ⟨g13, 0, none⟩ (.bool false)).setCell ⟨g13, 1, none⟩ (.bool false)).setCell ⟨g13, 2, none⟩ (.bool false)).setCell ⟨g13, 3, none⟩ (.int .i64 0)).setCell ⟨g13, 4, none⟩ (.int .u16 0)).setCell ⟨g13, 5, none⟩ (.int .u32 0)).setCell ⟨g13, 6, none⟩ (.int .u32 0)).setCell ⟨g13, 7, none⟩ (.slice A8 0 c8)) g13 _ _ := Blk.put8 hbz
          have hE9 : Ext w3 ((((((((w8.setCell ⟨g13, 0, none⟩ (.bool false)).setCell ⟨g13, 1, none⟩ (.bool false)).setCell ⟨g13, 2, none⟩ (.bool false)).setCell ⟨g13, 3, none⟩ (.int .i64 0)).setCell ⟨g13, 4, none⟩ (.int .u16 0)).setCell ⟨g13, 5, none⟩ (.int .u32 0)).setCell ⟨g13, 6, none⟩ (.int .u32 0)).setCell ⟨g13, 7, none⟩ (.slice A8 0 c8)) := Ext.put8 hE5 hg3
          go_wp2_with fail
          refine (rsame_zero A8 c8 _ (Els.empty hZ8)).mono ?_
          rintro e w9 ⟨rfl, hE10⟩
          go_wp2_with fail
          go_meet
          case rel => exact hE9.trans hE10
    case rest =>
      replace hE := hE.trans hcut
      replace hb := hb.ext hcut
      clear hcut HR1 HR2 HY1 HN1 HY2 HN2 hX hX2 hh hk hbx hbk
      by_cases hE0 : E = 0
      · subst hE0
        obtain ⟨hr, hbt, g12, gle, glen⟩ := HBK.out rfl
        have hbtk := hb.take (m := N) (by rw [← hb.len]; exact gle)
        have S9 := hide (fun W A c hY => hwrite_C y A c y.csrc.length W hY hr (b.take N) hbt N glen.symm)
        have S10 := hide (fun W A c => hright_B y A y.csrc.length c W true hr)
        have j1 : (12 : Int) ≤ (N : Int) := by omega
        have j1' : decide ((12 : Int) ≤ (N : Int)) = true := decide_eq_true j1
        have hb3 := hb.le
        have hb4 := hb.len
        have j2 : (N : Int) ≤ (n3 : Int) := by omega
        have j2' : decide ((N : Int) ≤ (n3 : Int)) = true := decide_eq_true j2
        have j2n : decide (N ≤ n3) = true := decide_eq_true (by omega)
        have j3 : (N : Int) ≤ (c3 : Int) := by omega
        have hbl : (b.take N).length = N := by rw [List.length_take]; omega
        obtain ⟨bt, ebt⟩ : ∃ x, b.take N = x := ⟨_, rfl⟩
        rw [ebt] at hbtk S9
        clear hbt glen hr HBK S5z hbl ebt hb4
        go_wp2_with fail
        refine (S5.out _ hb).mono ?_
        rintro e wa ⟨Ay2, cy2, rfl, hY, hE2⟩
        have hby := Blk.new wa 54 #[.bool y.pad, .bool y.ext, .bool y.mark, .int .i64 y.typ, .int .u16 (y.seq.toNat : Int), .int .u32 (y.time.toNat : Int), .int .u32 (y.ssrc.toNat : Int), .slice Ay2 y.csrc.length cy2]
        have hE3 := (Ext.refl wa).alloc (.cells #[.bool y.pad, .bool y.ext, .bool y.mark, .int .i64 y.typ, .int .u16 (y.seq.toNat : Int), .int .u32 (y.time.toNat : Int), .int .u32 (y.ssrc.toNat : Int), .slice Ay2 y.csrc.length cy2] 54)
        replace hE2 := hE2.trans hE3
        replace hY := hY.ext hE3
        replace hE := hE.trans hE2
        replace hb := hb.ext hE2
        replace hbtk := hbtk.ext hE2
        clear hE2 S5 hE3
        go_wp2_with fail
        refine (S9.out _ _ _ hY).mono ?_
        rintro e wb ⟨Aw, cw, rfl, hW2, hE2⟩
        replace hE := hE.trans hE2
        replace hb := hb.ext hE2
        replace hbtk := hbtk.ext hE2
        replace hY := hY.ext hE2
        replace hby := hby.below hE2 hby.lt
        clear hE2 S9
        go_wp2_with fail
        have HEb := hide hE
        refine regE_start (by kernel_rfl) ?_
        have hR := (Ext.refl wb).drew
        generalize hgw : (wb).drew = wr0 at *
        clear hgw
        refine regE_take (i := 0) (v := ?_) rfl (by kernel_rfl) (by kernel_rfl) (by kernel_rfl) (fun _ _ _ h => h) (by rfl) ?_ ?_
        rotate_left
        · intro W hW; go_simp; try with_reducible rfl
        simp only [Act.put, List.setIfInBounds_toArray, List.set_cons_zero, List.set_cons_succ]
        refine regE_take (i := 1) (v := ?_) rfl (by kernel_rfl) (by kernel_rfl) (by kernel_rfl) (fun _ _ _ h => h) (by rfl) ?_ ?_
        rotate_left
        · intro W hW; go_simp; try with_reducible rfl
        simp only [Act.put, List.setIfInBounds_toArray, List.set_cons_zero, List.set_cons_succ]
        refine regE_take (i := 2) (v := ?_) rfl (by kernel_rfl) (by kernel_rfl) (by kernel_rfl) (fun _ _ _ h => h) (by rfl) ?_ ?_
        rotate_left
        · intro W hW; go_simp; try with_reducible rfl
        simp only [Act.put, List.setIfInBounds_toArray, List.set_cons_zero, List.set_cons_succ]
        refine regE_take (i := 3) (v := ?_) rfl (by kernel_rfl) (by kernel_rfl) (by kernel_rfl) (fun _ _ _ h => h) (by rfl) ?_ ?_
        rotate_left
        · intro W hW; obtain ⟨⟨u0, u1, u2, u3, u4, u5, u6, u7⟩, _, _⟩ := (hby.below hW hby.lt).eight; go_simp; try with_reducible rfl
        simp only [Act.put, List.setIfInBounds_toArray, List.set_cons_zero, List.set_cons_succ]
        refine regE_do (i := 4) rfl (by kernel_rfl) (fun K hK => ?_)
        rw [if_pos (by rfl)]
        go_simp
        refine (S10.out _ _ _).mono ?_
        rintro e wr1 ⟨rfl, hXX⟩
        refine hK.out _ _ (hR.trans hXX) ?_
        clear hK K
        replace hR := hR.trans hXX
        clear hXX
        try simp only [Act.put, List.setIfInBounds_toArray, List.set_cons_zero, List.set_cons_succ]
        refine regE_take (i := 5) (v := ?_) rfl (by kernel_rfl) (by kernel_rfl) (by kernel_rfl) (fun _ _ _ h => h) (by rfl) ?_ ?_
        rotate_left
        · intro W hW; go_simp; try with_reducible rfl
        simp only [Act.put, List.setIfInBounds_toArray, List.set_cons_zero, List.set_cons_succ]
        refine regE_take (i := 6) (v := ?_) rfl (by kernel_rfl) (by kernel_rfl) (by kernel_rfl) (fun _ _ _ h => h) (by rfl) ?_ ?_
        rotate_left
        · intro W hW; go_simp; try with_reducible rfl
        simp only [Act.put, List.setIfInBounds_toArray, List.set_cons_zero, List.set_cons_succ]
        refine regE_take (i := 7) (v := ?_) rfl (by kernel_rfl) (by kernel_rfl) (by kernel_rfl) (fun _ _ _ h => h) (by rfl) ?_ ?_
        rotate_left
        · intro W hW; go_simp; try with_reducible rfl
        simp only [Act.put, List.setIfInBounds_toArray, List.set_cons_zero, List.set_cons_succ]
        refine regE_take (i := 8) (v := ?_) rfl (by kernel_rfl) (by kernel_rfl) (by kernel_rfl) (fun _ _ _ h => h) (by rfl) ?_ ?_
        rotate_left
        · intro W hW; go_simp; try with_reducible rfl
        simp only [Act.put, List.setIfInBounds_toArray, List.set_cons_zero, List.set_cons_succ]
        refine regE_take (i := 9) (v := ?_) rfl (by kernel_rfl) (by kernel_rfl) (by kernel_rfl) (fun _ _ _ h => h) (by rfl) ?_ ?_
        rotate_left
        · intro W hW; go_simp; try with_reducible rfl
        simp only [Act.put, List.setIfInBounds_toArray, List.set_cons_zero, List.set_cons_succ]
        refine regE_take (i := 10) (v := ?_) rfl (by kernel_rfl) (by kernel_rfl) (by kernel_rfl) (fun _ _ _ h => h) (by rfl) ?_ ?_
        rotate_left
        · intro W hW; go_simp; try with_reducible rfl
        simp only [Act.put, List.setIfInBounds_toArray, List.set_cons_zero, List.set_cons_succ]
        refine regE_take (i := 11) (v := ?_) rfl (by kernel_rfl) (by kernel_rfl) (by kernel_rfl) (fun _ _ _ h => h) (by rfl) ?_ ?_
        rotate_left
        · intro W hW; go_simp; try with_reducible rfl
        simp only [Act.put, List.setIfInBounds_toArray, List.set_cons_zero, List.set_cons_succ]
        refine regE_take (i := 12) (v := ?_) rfl (by kernel_rfl) (by kernel_rfl) (by kernel_rfl) (fun _ _ _ h => h) (by rfl) ?_ ?_
        rotate_left
        · intro W hW; go_simp; try with_reducible rfl
        simp only [Act.put, List.setIfInBounds_toArray, List.set_cons_zero, List.set_cons_succ]
        refine regE_take (i := 13) (v := ?_) rfl (by kernel_rfl) (by kernel_rfl) (by kernel_rfl) (fun _ _ _ h => h) (by rfl) ?_ ?_
        rotate_left
        · intro W hW; go_simp; try with_reducible rfl
        simp only [Act.put, List.setIfInBounds_toArray, List.set_cons_zero, List.set_cons_succ]
        refine regE_take (i := 14) (v := ?_) rfl (by kernel_rfl) (by kernel_rfl) (by kernel_rfl) (fun _ _ _ h => h) (by rfl) ?_ ?_
        rotate_left
        · intro W hW; go_simp; try with_reducible rfl
        simp only [Act.put, List.setIfInBounds_toArray, List.set_cons_zero, List.set_cons_succ]
        refine regE_take (i := 15) (v := ?_) rfl (by kernel_rfl) (by kernel_rfl) (by kernel_rfl) (fun _ _ _ h => h) (by rfl) ?_ ?_
        rotate_left
        · intro W hW; go_simp; try with_reducible rfl
        simp only [Act.put, List.setIfInBounds_toArray, List.set_cons_zero, List.set_cons_succ]
        refine regE_take (i := 16) (v := ?_) rfl (by kernel_rfl) (by kernel_rfl) (by kernel_rfl) (fun _ _ _ h => h) (by rfl) ?_ ?_
        rotate_left
        · intro W hW; go_simp; try with_reducible rfl
        simp only [Act.put, List.setIfInBounds_toArray, List.set_cons_zero, List.set_cons_succ]
        refine regE_take (i := 17) (v := ?_) rfl (by kernel_rfl) (by kernel_rfl) (by kernel_rfl) (fun _ _ _ h => h) (by rfl) ?_ ?_
        rotate_left
        · intro W hW; go_simp; try with_reducible rfl
        simp only [Act.put, List.setIfInBounds_toArray, List.set_cons_zero, List.set_cons_succ]
        refine regE_take (i := 18) (v := ?_) rfl (by kernel_rfl) (by kernel_rfl) (by kernel_rfl) (fun _ _ _ h => h) (by rfl) ?_ ?_
        rotate_left
        · intro W hW; have s1 := run_str (hW2.ext hW); go_simp; try with_reducible rfl
        simp only [Act.put, List.setIfInBounds_toArray, List.set_cons_zero, List.set_cons_succ]
        refine regE_take (i := 19) (v := ?_) rfl (by kernel_rfl) (by kernel_rfl) (by kernel_rfl) (fun _ _ _ h => h) (by rfl) ?_ ?_
        rotate_left
        · intro W hW; go_simp; try with_reducible rfl
        simp only [Act.put, List.setIfInBounds_toArray, List.set_cons_zero, List.set_cons_succ]
        refine regE_take (i := 20) (v := ?_) rfl (by kernel_rfl) (by kernel_rfl) (by kernel_rfl) (fun _ _ _ h => h) (by rfl) ?_ ?_
        rotate_left
        · intro W hW; go_simp; try with_reducible rfl
        simp only [Act.put, List.setIfInBounds_toArray, List.set_cons_zero, List.set_cons_succ]
        refine regE_take (i := 21) (v := ?_) rfl (by kernel_rfl) (by kernel_rfl) (by kernel_rfl) (fun _ _ _ h => h) (by rfl) ?_ ?_
        rotate_left
        · intro W hW; go_simp; try with_reducible rfl
        simp only [Act.put, List.setIfInBounds_toArray, List.set_cons_zero, List.set_cons_succ]
        refine regE_take (i := 22) (v := ?_) rfl (by kernel_rfl) (by kernel_rfl) (by kernel_rfl) (fun _ _ _ h => h) (by rfl) ?_ ?_
        rotate_left
        · intro W hW; have s1 := run_str (hbtk.ext hW); go_simp; try with_reducible rfl
        simp only [Act.put, List.setIfInBounds_toArray, List.set_cons_zero, List.set_cons_succ]
        refine regE_take (i := 23) (v := ?_) rfl (by kernel_rfl) (by kernel_rfl) (by kernel_rfl) (fun _ _ _ h => h) (by rfl) ?_ ?_
        rotate_left
        · intro W hW; go_simp; try with_reducible rfl
        simp only [Act.put, List.setIfInBounds_toArray, List.set_cons_zero, List.set_cons_succ]
        refine regE_take (i := 24) (v := ?_) rfl (by kernel_rfl) (by kernel_rfl) (by kernel_rfl) (fun _ _ _ h => h) (by rfl) ?_ ?_
        rotate_left
        · intro W hW; go_simp; try with_reducible rfl
        simp only [Act.put, List.setIfInBounds_toArray, List.set_cons_zero, List.set_cons_succ]
        refine regE_take (i := 25) (v := ?_) rfl (by kernel_rfl) (by kernel_rfl) (by kernel_rfl) (fun _ _ _ h => h) (by rfl) ?_ ?_
        rotate_left
        · intro W hW; go_simp; try with_reducible rfl
        simp only [Act.put, List.setIfInBounds_toArray, List.set_cons_zero, List.set_cons_succ]
        refine regE_done (by kernel_rfl) ?_
        go_wp2_with fail
        go_ret
        exact ⟨rfl, HEb.out.trans hR⟩
      · have hne : (E != 0) = true := bne_iff_ne.2 hE0
        have S6 := hide (fun W hb => S5z.out W hb hE0)
        clear S5 S5z HBK hE0
        go_wp2_with fail
        refine (S6.out _ hb).mono ?_
        rintro e wa ⟨Az, cz, rfl, hZ, hE2⟩
        go_wp2_with fail
        refine (rsame_zero Az cz _ (Els.empty hZ)).mono ?_
        rintro e wb ⟨rfl, hE3⟩
        go_wp2_with fail
        go_ret
        exact ⟨rfl, (hE.trans (hE2.alloc _)).trans hE3⟩
end Go.Proofs.Ytiamcdbnhmlhaaa

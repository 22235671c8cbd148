/- The document's answer for headers: Right, Write, Num. -/
import Derived.Test.YtiamcdbnhmlhaaaHead
import Derived.Test.YtiamcdbnhmlhaaaRef01
namespace Go.Proofs.Ytiamcdbnhmlhaaa
open Go.RowKit
set_option maxHeartbeats 1000000 in
theorem rhright_any (h : Hd) (A : Option Addr) (n c : Nat) (w : World) : Calls Try.prog 27 #[.agg #[.bool h.pad, .bool h.ext, .bool h.mark, .int .i64 h.typ, .int .u16 (h.seq.toNat : Int), .int .u32 (h.time.toNat : Int), .int .u32 (h.ssrc.toNat : Int), .slice A n c]] w fun e w' => e = .returned (.bool (hRight h.typ n)) ∧ Ext w w' := by
  go_enter Try.func27, Try.ntmps27
  go_wp2
  all_goals go_ret
  all_goals exact ⟨ret_boolH (by simp [hRight]; try omega), (Ext.refl _).alloc _⟩
theorem rnum_ok (A : Option Addr) (len c : Nat) (l : List UInt8) (at_ n : Nat) (w : World) (hb : Bytes w A len c l) (h1 : 1 ≤ n) (h2 : n ≤ 8) (h4 : at_ + n ≤ len) (v : Nat) (hv : (UInt32.ofNat (val ((l.drop at_).take n))).toNat = v) :
    Calls Try.prog 45 #[.slice A len c, .int .i64 at_, .int .i64 n] w fun e w' => e = .returned (.int .u32 v) ∧ w = w' := by
  have S := hide (fun W h => rget_ok A len c l at_ n W h h1 h2 h4)
  obtain ⟨x, hx⟩ : ∃ x, val ((l.drop at_).take n) = x := ⟨_, rfl⟩
  rw [hx] at S hv
  have hw : IntKind.u32.wrap (x : Int) = (v : Int) := by rw [IntKind.wrap_u32, ← hv, UInt32.toNat_ofNat']; omega
  have hw2 : (x : Int) % 4294967296 = (v : Int) := by rw [← hv, UInt32.toNat_ofNat']; omega
  clear hx hv
  go_enter Try.func45, Try.ntmps45
  go_wp2_with fail
  refine (S.out _ hb).mono ?_
  rintro e w1 ⟨rfl, rfl⟩
  go_wp2_with fail
  go_ret
  refine ⟨?_, rfl⟩
  first
    | rfl
    | (congr 2)
theorem own_two (w : World) (g : Nat) (hg : w.heap.size = g) (X Y : Int) (x y : UInt8) (hx : X = (x.toNat : Int)) (hy : Y = (y.toNat : Int)) : (w.alloc (.cells #[.int .u8 X, .int .u8 Y] 5)).ownsRow w.heap.size 5 1 (.slice (some ⟨g, 0, none⟩) 2 2) 2 ([x, y].map Bv) := by
  subst hx hy hg
  exact World.ownsRow_lit (base := w.heap.size) (e := 5) (size := 1) w #[.int .u8 (x.toNat : Int), .int .u8 (y.toNat : Int)] 2 (Nat.le_refl _) (by unfold maxLen; omega) (by simp)
set_option maxRecDepth 100000 in
set_option maxHeartbeats 4000000 in
theorem rhwrite_B (h : Hd) (A : Option Addr) (c : Nat) (n : Nat) (w : World) (hc : Els e32 w A n c h.csrc) (hr : hRight h.typ n = true) (x : List UInt8) (hx : hBytes h = x) : Calls Try.prog 29 #[.agg #[.bool h.pad, .bool h.ext, .bool h.mark, .int .i64 h.typ, .int .u16 (h.seq.toNat : Int), .int .u32 (h.time.toNat : Int), .int .u32 (h.ssrc.toNat : Int), .slice A n c]] w fun e w' => ∃ A' c', e = .returned (.slice A' (12 + 4 * n) c') ∧ Bytes w' A' (12 + 4 * n) c' x ∧ Ext w w' := by
  obtain ⟨r1, r2, r3⟩ := hRight_iff.1 hr
  have hlen := hc.len
  have hnc := hc.le
  have hcm := hc.reach
  clear hr
  subst hx
  have hby : hBytes h = [UInt8.ofNat (h0 h), UInt8.ofNat (h1 h)] ++ be 2 h.seq.toNat ++ be 4 h.time.toNat ++ be 4 h.ssrc.toNat ++ cBe (h.csrc.take n) := by rw [List.take_of_length_le (by omega)]; rfl
  have q0 : h0 h = 128 + bit h.pad 32 + bit h.ext 16 + n := by rw [h0, hlen]
  have q1 : h1 h = bit h.mark 128 + h.typ.toNat := rfl
  have l0 : h0 h < 256 := by rw [q0]; have := bit_le h.pad 32; have := bit_le h.ext 16; omega
  have l1 : h1 h < 256 := by rw [q1]; have := bit_le h.mark 128; omega
  have hbx := Blk.new w 54 #[.bool h.pad, .bool h.ext, .bool h.mark, .int .i64 h.typ, .int .u16 (h.seq.toNat : Int), .int .u32 (h.time.toNat : Int), .int .u32 (h.ssrc.toNat : Int), .slice A n c]
  have hEb := (Ext.refl w).alloc (.cells #[.bool h.pad, .bool h.ext, .bool h.mark, .int .i64 h.typ, .int .u16 (h.seq.toNat : Int), .int .u32 (h.time.toNat : Int), .int .u32 (h.ssrc.toNat : Int), .slice A n c] 54)
  obtain ⟨p, x, m, typ, seq, time, ssrc, csrc⟩ := h
  dsimp only at *
  have hs16 : (seq.toNat : Int) < 65536 := by have := seq.toNat_lt; omega
  have hs32 : (time.toNat : Int) < 4294967296 := by have := time.toNat_lt; omega
  have hs33 : (ssrc.toNat : Int) < 4294967296 := by have := ssrc.toNat_lt; omega
  have M2 := hide (fun W => rmust_ok seq.toNat 2 W (by omega) (by omega) (by omega) (by omega))
  have M4 := hide (fun W => rmust_ok time.toNat 4 W (by omega) (by omega) (by omega) (by omega))
  have M5 := hide (fun W => rmust_ok ssrc.toNat 4 W (by omega) (by omega) (by omega) (by omega))
  have HBY := hide hby
  have HLEN := hide hlen
  obtain ⟨X, hX⟩ : ∃ X, h0 ⟨p, x, m, typ, seq, time, ssrc, csrc⟩ = X := ⟨_, rfl⟩
  obtain ⟨Y, hY⟩ : ∃ Y, h1 ⟨p, x, m, typ, seq, time, ssrc, csrc⟩ = Y := ⟨_, rfl⟩
  rw [hX] at q0 l0 HBY
  rw [hY] at q1 l1 HBY
  have HXY := hide (And.intro q0 q1)
  clear hby hlen hX hY q0 q1
  cases p <;> cases x <;> cases m
  all_goals
    obtain ⟨q0, q1⟩ := HXY.out
    simp only [bit, if_true, Bool.false_eq_true, if_false] at q0 q1
    have HX := hide q0
    have HY := hide q1
    clear q0 q1 HXY
    go_enter Try.func29, Try.ntmps29
    go_wp2_with fail
    refine (M2.out _).mono ?_
    rintro e w2 ⟨A2, c2, rfl, hB2, hE2⟩
    have O := own_ext (own_two _ (w.heap.size + 1) (by simp) _ _ (UInt8.ofNat X) (UInt8.ofNat Y) (by rw [UInt8.toNat_ofNat']; have := HX.out; omega) (by rw [UInt8.toNat_ofNat']; have := HY.out; omega)) hE2
    replace hE2 := ((Ext.refl _).alloc _).trans hE2
    generalize hgw : w.alloc (.cells #[.bool _, .bool _, .bool _, .int .i64 typ, .int .u16 (seq.toNat : Int), .int .u32 (time.toNat : Int), .int .u32 (ssrc.toNat : Int), .slice A n c] 54) = wb at *
    clear hgw
    obtain ⟨⟨u0, u1, u2, u3, u4, u5, u6, u7⟩, _, _⟩ := (hbx.below hE2 hbx.lt).eight
    go_wp2_with (at_builtin; refine wpList_appB wb _ _ rfl rfl hE2 _ 2 2 _ rfl O A2 2 c2 _ rfl hB2 (by omega) ?_; intro A3 c3 w3 O3 hE3; obtain ⟨⟨v0, v1, v2, v3, v4, v5, v6, v7⟩, _, _⟩ := (hbx.below hE3 hbx.lt).eight)
    clear u0 u1 u2 u3 u4 u5 u6 u7 v0 v1 v2 v3 v4 v5 v6 v7 O hE2 hB2
    refine (M4.out _).mono ?_
    rintro e w4 ⟨A4, c4, rfl, hB4, hE4⟩
    replace O3 := own_ext O3 hE4
    replace hE3 := hE3.trans hE4
    clear hE4
    obtain ⟨⟨u0, u1, u2, u3, u4, u5, u6, u7⟩, _, _⟩ := (hbx.below hE3 hbx.lt).eight
    go_wp2_with (at_builtin; refine wpList_appB wb _ _ rfl rfl hE3 A3 4 c3 _ rfl O3 A4 4 c4 _ rfl hB4 (by omega) ?_; intro A5 c5 w5 O5 hE5; obtain ⟨⟨v0, v1, v2, v3, v4, v5, v6, v7⟩, _, _⟩ := (hbx.below hE5 hbx.lt).eight)
    clear u0 u1 u2 u3 u4 u5 u6 u7 v0 v1 v2 v3 v4 v5 v6 v7 O3 hE3 hB4
    refine (M5.out _).mono ?_
    rintro e w6 ⟨A6, c6, rfl, hB6, hE6⟩
    replace O5 := own_ext O5 hE6
    replace hE5 := hE5.trans hE6
    clear hE6
    obtain ⟨⟨u0, u1, u2, u3, u4, u5, u6, u7⟩, _, _⟩ := (hbx.below hE5 hbx.lt).eight
    go_wp2_with (at_builtin; refine wpList_appB wb _ _ rfl rfl hE5 A5 8 c5 _ rfl O5 A6 4 c6 _ rfl hB6 (by omega) ?_; intro A7 c7 w7 O7 hE7)
    clear u0 u1 u2 u3 u4 u5 u6 u7 O5 hE5 hB6 M2 M4 M5
    replace hc := hc.ext hEb
    go_loopw [5, 6] (fun v i wr => ∃ (j : Nat) (A' : Option Addr) (c' : Nat), j ≤ n ∧ i = .int .i64 j ∧ v = .slice A' (12 + 4 * j) c' ∧ wr.ownsRow wb.heap.size 5 1 (.slice A' (12 + 4 * j) c') (12 + 4 * j) (([UInt8.ofNat X, UInt8.ofNat Y] ++ be 2 seq.toNat ++ be 4 time.toNat ++ be 4 ssrc.toNat ++ cBe (csrc.take j)).map Bv) ∧ Ext wb wr) (fun _ i _ => n - (intOf i).toNat)
    case atStart => exact ⟨0, A7, c7, Nat.zero_le _, rfl, rfl, by simpa [cBe] using O7, hE7⟩
    case round =>
      clear O7 hE7
      obtain ⟨j, A', c', hj, rfl, rfl, hO, hX⟩ := hrel
      obtain ⟨⟨u0, u1, u2, u3, u4, u5, u6, u7⟩, _, _⟩ := (hbx.below hX hbx.lt).eight
      by_cases hlt : j < n
      · have hjl : j < csrc.length := by rw [HLEN.out]; exact hlt
        obtain ⟨g, o, rfl, hg, hcell⟩ := (hc.ext hX).u32 (by omega)
        have hc0 := hcell j hjl
        have hts := cBe_take csrc j hjl
        generalize csrc[j] = q at hc0 hts
        have hq := q.toNat_lt
        have hq2 : (q.toNat : Int) < 4294967296 := by omega
        have S := hide (fun W => rmust_ok q.toNat 4 W (by omega) (by omega) (by omega) (by omega))
        have HTS := hide hts
        clear hcell hts
        go_wp2_with fail
        refine (S.out _).mono ?_
        rintro e w4 ⟨A9, c9, rfl, hB9, hE4⟩
        replace hO := own_ext hO hE4
        replace hX := hX.trans hE4
        clear hE4 hc0 u0 u1 u2 u3 u4 u5 u6 u7 S
        go_wp2_with (at_builtin; refine wpList_appB wb _ _ rfl rfl hX A' (12 + 4 * j) c' _ rfl hO A9 4 c9 _ rfl hB9 (by omega) ?_; intro A2 c2 w5 hO2 hE5)
        go_roundw
        case rel => exact ⟨j + 1, A2, c2, by omega, by go_num, rfl, by rw [HTS.out, ← List.append_assoc]; exact hO2, hE5⟩
        case measure => simp [intOf]; omega
      · obtain rfl : j = n := by omega
        go_wp2_with fail
        go_ret
        exact ⟨A', c', rfl, by rw [HBY.out]; exact Bytes.own hO, hEb.trans hX⟩
end Go.Proofs.Ytiamcdbnhmlhaaa

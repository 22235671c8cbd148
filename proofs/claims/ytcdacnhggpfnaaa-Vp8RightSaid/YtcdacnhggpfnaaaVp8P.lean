/- vp8's reader: picture: the walk. -/
import Derived.Test.YtcdacnhggpfnaaaVp8R
import Derived.Test.YtcdacnhggpfnaaaPlainVp8R
namespace Go.Proofs.Ytcdacnhggpfnaaa
open Go.RowKit
theorem i64_and_natV (a b : Nat) (ha : a < 9223372036854775808) (hb : b < 9223372036854775808) : bits .and .i64 (a : Int) (b : Int) = ((a &&& b : Nat) : Int) := by
  have hx : a &&& b < 2 ^ 63 := Nat.and_lt_two_pow a (by omega)
  have h1 : ∀ a : Nat, a < 9223372036854775808 → (BitVec.ofInt 64 (a : Int)).toNat = a := fun a ha => by rw [BitVec.ofInt_natCast, BitVec.toNat_ofNat]; exact Nat.mod_eq_of_lt (by omega)
  show IntKind.i64.wrap ((BitVec.ofInt 64 (a : Int) &&& BitVec.ofInt 64 (b : Int)).toNat : Int) = _
  rw [BitVec.toNat_and, h1 a ha, h1 b hb, IntKind.wrap_i64]
  omega
theorem take_any (g : Nat) (A : Option Addr) (n c : Nat) (b : List UInt8) (k : Nat) (s : Rs) (w : World) (hb : Bytes w A n c b) (hg : Blk w g 105 #[.slice A n c, .int .i64 (s.at_ : Int), .bool s.short, .int .i64 s.p, .int .i64 s.l, .int .i64 s.k]) (hk1 : 1 ≤ k) (hk2 : k ≤ 2) (hn : n ≤ 1000000) (hat : s.at_ ≤ 1000000) (v : Nat) (hv : tkN b s k = v) (a : Int) (ha : tkA b s k = a) (s' : Rs) (hs : tkS b s k = s') :
    Calls Try.prog 77 #[.pointer (some ⟨g, 0, none⟩), .int .i64 (k : Int)] w fun e w' => e = .returned (.tuple #[.int .i64 (v : Int), .int .i64 a]) ∧ Blk w' g 105 #[.slice A n c, .int .i64 (s'.at_ : Int), .bool s'.short, .int .i64 s'.p, .int .i64 s'.l, .int .i64 s'.k] ∧ Chg (· = g) w w' := by
  subst hv ha hs
  have hlen := hb.len
  unfold tkN tkA tkS
  by_cases h : s.at_ + k ≤ b.length
  · rw [if_pos h, if_pos h, if_pos h]
    exact take_ok g A n c b s.at_ k s.short s.p s.l s.k w hb hg hk1 hk2 hn (by omega) _ rfl
  · rw [if_neg h, if_neg h, if_neg h]
    exact take_no g A n c b s.at_ k s.short s.p s.l s.k w hb hg hk1 hk2 (by omega) hat
theorem tkN_lt (b : List UInt8) (s : Rs) (k : Nat) (h1 : 1 ≤ k) (h2 : k ≤ 2) : tkN b s k < 65536 := by
  unfold tkN
  split
  · rename_i h
    have hE : getE b.length s.at_ k = 0 := getE_of (by omega) (by omega) (by omega) (by omega)
    have := getV_lt hE
    have h : (256 : Nat) ^ (k : Int).toNat ≤ 65536 := by
      rw [Int.toNat_natCast]
      have : k = 1 ∨ k = 2 := by omega
      rcases this with rfl | rfl <;> decide
    omega
  · omega
set_option maxRecDepth 100000 in
set_option maxHeartbeats 2000000 in
theorem picture_any (g q : Nat) (hgq : g ≠ q) (A : Option Addr) (n c : Nat) (b : List UInt8) (s : Rs) (d : V8) (W0 w : World) (hb : Bytes W0 A n c b) (hE : Ext W0 w) (h0g : W0.heap.size ≤ g) (h0q : W0.heap.size ≤ q) (hg : Blk w g 105 #[.slice A n c, .int .i64 (s.at_ : Int), .bool s.short, .int .i64 s.p, .int .i64 s.l, .int .i64 s.k]) (hq : Blk w q 45 #[.bool d.alone, .bool d.start, .int .i64 d.part, .bool d.hasPic, .bool d.wide, .int .i64 d.pic, .bool d.hasLevel, .int .i64 d.level, .bool d.hasTid, .bool d.hasKey, .int .i64 d.tid, .bool d.sync, .int .i64 d.key]) (hn : n ≤ 1000000) (hat : s.at_ ≤ 1000000) (s' : Rs) (hs : picS b s = s') (d' : V8) (hd : picD b s d = d') :
    Calls Try.prog 78 #[.pointer (some ⟨g, 0, none⟩), .pointer (some ⟨q, 0, none⟩)] w fun e w' => e = .returned (.tuple #[]) ∧ Blk w' g 105 #[.slice A n c, .int .i64 (s'.at_ : Int), .bool s'.short, .int .i64 s'.p, .int .i64 s'.l, .int .i64 s'.k] ∧ Blk w' q 45 #[.bool d'.alone, .bool d'.start, .int .i64 d'.part, .bool d'.hasPic, .bool d'.wide, .int .i64 d'.pic, .bool d'.hasLevel, .int .i64 d'.level, .bool d'.hasTid, .bool d'.hasKey, .int .i64 d'.tid, .bool d'.sync, .int .i64 d'.key] ∧ Chg (fun x => x = g ∨ x = q) w w' := by
  obtain ⟨v, hv⟩ : ∃ v, tkN b s 1 = v := ⟨_, rfl⟩
  obtain ⟨a, ha⟩ : ∃ v, tkA b s 1 = v := ⟨_, rfl⟩
  obtain ⟨s1, hs1⟩ : ∃ v, tkS b s 1 = v := ⟨_, rfl⟩
  have S1 := hide (fun W h h' => take_any g A n c b 1 s W h h' (by omega) (by omega) hn hat v hv a ha s1 hs1)
  have hv6 := tkN_lt b s 1 (by omega) (by omega)
  rw [hv] at hv6
  unfold picS at hs
  unfold picD at hd
  rw [hv, ha, hs1] at hs
  rw [hv] at hd
  obtain ⟨da, ds, dp, dhp, dwi, dpc, dhl, dlv, dht, dhk, dti, dsy, dky⟩ := d
  dsimp only at *
  by_cases h1 : v < 128
  · rw [if_pos h1] at hs hd
    have HS := hide (And.intro hs hd)
    have hlt : (v : Int) < 128 := by omega
    clear hs hd hv ha hs1 h1
    go_enter Try.func78, Try.ntmps78
    go_wp2_with fail
    refine (S1.out _ (hb.ext hE) hg).mono ?_
    rintro e w1 ⟨rfl, hg1, hC⟩
    have hq1 := hC.blk q _ _ (fun e => hgq e.symm) hq
    obtain ⟨⟨y0, y1, y2, y3, y4, y5⟩, yf, _⟩ := hg1.sixR
    obtain ⟨⟨x0, x1, x2, x3, x4, x5, x6, x7, x8, x9, x10, x11, x12⟩, xf, _⟩ := hq1.thirteen
    go_wp2_with fail
    obtain ⟨rfl, rfl⟩ := HS.out
    have hgf := (hg1.far (p := ⟨q, 5, none⟩) (by show g ≠ q; exact hgq) (.int .i64 (v : Int))).set_ 3 (.int .i64 a)
    have hqf := (hq1.set_ 5 (.int .i64 (v : Int))).far (p := ⟨g, 3, none⟩) (by show q ≠ g; exact fun e => hgq e.symm) (.int .i64 a)
    simp only [List.setIfInBounds_toArray, List.set_cons_zero, List.set_cons_succ] at hgf hqf
    exact bodyPost_ret (v := .tuple #[]) (by simp [results, Try.results78, go_sem]) rfl ⟨rfl, hgf, hqf, ((hC.mono fun x e => .inl e).trans (Chg.set_ w1 q 5 _ (.inr rfl))).trans (Chg.set_ _ g 3 _ (.inl rfl))⟩
  · rw [if_neg h1] at hs hd
    have hin : s.at_ + 1 ≤ b.length := by
      rcases Nat.lt_or_ge b.length (s.at_ + 1) with h | h
      · unfold tkN at hv
        rw [if_neg (by omega)] at hv
        omega
      · exact h
    have ha2 : a = (s.at_ : Int) := by rw [← ha]; unfold tkA; rw [if_pos hin]
    have hs2 : s1 = ⟨s.at_ + 1, s.short, s.p, s.l, s.k⟩ := by rw [← hs1]; unfold tkS; rw [if_pos hin]
    subst ha2 hs2
    obtain ⟨v2, hv2⟩ : ∃ v, tkN b s 2 = v := ⟨_, rfl⟩
    obtain ⟨a2, ha2⟩ : ∃ v, tkA b s 2 = v := ⟨_, rfl⟩
    obtain ⟨s3, hs3⟩ : ∃ v, tkS b ⟨s.at_, s.short, (s.at_ : Int), s.l, s.k⟩ 2 = v := ⟨_, rfl⟩
    have hv7 := tkN_lt b s 2 (by omega) (by omega)
    rw [hv2] at hv7 hd
    rw [ha2, hs3] at hs
    have S2 := hide (fun W h h' => take_any g A n c b 2 ⟨s.at_, s.short, (s.at_ : Int), s.l, s.k⟩ W h h' (by omega) (by omega) hn hat v2 hv2 a2 ha2 s3 hs3)
    have HS := hide (And.intro hs hd)
    have hlt : ¬ (v : Int) < 128 := by omega
    have hand : bits .and .i64 (v2 : Int) 32767 = ((v2 % 32768 : Nat) : Int) := by
      have h := i64_and_natV v2 32767 (by omega) (by omega)
      rw [show v2 &&& 32767 = v2 % 32768 from Nat.and_two_pow_sub_one_eq_mod v2 15] at h
      exact h
    have HA := hide hand
    clear hs hd hv ha hs1 h1 hv2 ha2 hs3 hin hand
    go_enter Try.func78, Try.ntmps78
    go_wp2_with fail
    refine (S1.out _ (hb.ext hE) hg).mono ?_
    rintro e w1 ⟨rfl, hg1, hC⟩
    have hq1 := hC.blk q _ _ (fun e => hgq e.symm) hq
    obtain ⟨⟨y0, y1, y2, y3, y4, y5⟩, yf, _⟩ := hg1.sixR
    obtain ⟨⟨x0, x1, x2, x3, x4, x5, x6, x7, x8, x9, x10, x11, x12⟩, xf, _⟩ := hq1.thirteen
    go_wp2_with fail
    have hg4 := (((hg1.far (p := ⟨q, 5, none⟩) (by show g ≠ q; exact hgq) (.int .i64 (v : Int))).set_ 3 (.int .i64 (s.at_ : Int))).far (p := ⟨q, 4, none⟩) (by show g ≠ q; exact hgq) (.bool true)).set_ 1 (.int .i64 (s.at_ : Int))
    have hq4 := (((hq1.set_ 5 (.int .i64 (v : Int))).far (p := ⟨g, 3, none⟩) (by show q ≠ g; exact fun e => hgq e.symm) (.int .i64 (s.at_ : Int))).set_ 4 (.bool true)).far (p := ⟨g, 1, none⟩) (by show q ≠ g; exact fun e => hgq e.symm) (.int .i64 (s.at_ : Int))
    simp only [List.setIfInBounds_toArray, List.set_cons_zero, List.set_cons_succ] at hg4 hq4
    have hC4 := ((((hC.mono (T := fun x => x = g ∨ x = q) fun x e => .inl e).trans (Chg.set_ w1 q 5 (.int .i64 (v : Int)) (.inr rfl))).trans (Chg.set_ _ g 3 (.int .i64 (s.at_ : Int)) (.inl rfl))).trans (Chg.set_ _ q 4 (.bool true) (.inr rfl))).trans (Chg.set_ _ g 1 (.int .i64 (s.at_ : Int)) (.inl rfl))
    clear y0 y1 y2 y3 y4 y5 yf x0 x1 x2 x3 x4 x5 x6 x7 x8 x9 x10 x11 x12 xf hg1 hq1 hC S1 hq hg
    generalize hgw : (((w1.setCell ⟨q, 5, none⟩ (.int .i64 (v : Int))).setCell ⟨g, 3, none⟩ (.int .i64 (s.at_ : Int))).setCell ⟨q, 4, none⟩ (.bool true)).setCell ⟨g, 1, none⟩ (.int .i64 (s.at_ : Int)) = w4 at *
    clear hgw
    have hE4 := hC4.ext W0 (fun x hx => by rcases hx with rfl | rfl <;> assumption) hE
    refine (S2.out _ (hb.ext hE4) hg4).mono ?_
    rintro e w5 ⟨rfl, hg5, hC5⟩
    have hq5 := hC5.blk q _ _ (fun e => hgq e.symm) hq4
    obtain ⟨⟨y0, y1, y2, y3, y4, y5⟩, yf, _⟩ := hg5.sixR
    obtain ⟨⟨x0, x1, x2, x3, x4, x5, x6, x7, x8, x9, x10, x11, x12⟩, xf, _⟩ := hq5.thirteen
    go_wp2_with fail
    obtain ⟨rfl, rfl⟩ := HS.out
    have hgf := ((hg5.far (p := ⟨q, 5, none⟩) (by show g ≠ q; exact hgq) (.int .i64 (v2 : Int))).set_ 3 (.int .i64 a2)).far (p := ⟨q, 5, none⟩) (by show g ≠ q; exact hgq) (.int .i64 (bits .and .i64 (v2 : Int) 32767))
    have hqf := ((hq5.set_ 5 (.int .i64 (v2 : Int))).far (p := ⟨g, 3, none⟩) (by show q ≠ g; exact fun e => hgq e.symm) (.int .i64 a2)).set_ 5 (.int .i64 (bits .and .i64 (v2 : Int) 32767))
    simp only [List.setIfInBounds_toArray, List.set_cons_zero, List.set_cons_succ] at hgf hqf
    have hCf := (((hC4.trans (hC5.mono (T := fun x => x = g ∨ x = q) fun x e => .inl e)).trans (Chg.set_ w5 q 5 (.int .i64 (v2 : Int)) (.inr rfl))).trans (Chg.set_ _ g 3 (.int .i64 a2) (.inl rfl))).trans (Chg.set_ _ q 5 (.int .i64 (bits .and .i64 (v2 : Int) 32767)) (.inr rfl))
    rw [HA.out] at hgf hqf hCf
    rw [HA.out]
    exact bodyPost_end (v := .tuple #[]) (by simp [results, Try.results78, go_sem]) rfl ⟨rfl, hgf, hqf, hCf⟩
end Go.Proofs.Ytcdacnhggpfnaaa

/- vp8's reader: layers: the walk. -/
import Derived.Test.YtcdacnhggpfnaaaVp8P
namespace Go.Proofs.Ytcdacnhggpfnaaa
open Go.RowKit
theorem tkN_lt1 (b : List UInt8) (s : Rs) : tkN b s 1 < 256 := by
  unfold tkN
  split
  · rename_i h
    have hE : getE b.length s.at_ (1 : Nat) = 0 := getE_of (by omega) (by omega) (by omega) (by omega)
    have := getV_lt hE
    simpa using this
  · omega
theorem and_bit5 (v : Nat) : v &&& 32 = v / 32 % 2 * 32 := Go.nat_bit 5 v
set_option maxRecDepth 100000 in
set_option maxHeartbeats 2000000 in
theorem layers_any (g q : Nat) (hgq : g ≠ q) (A : Option Addr) (n c : Nat) (b : List UInt8) (s : Rs) (d : V8) (w : World) (hb : Bytes w A n c b) (hg : Blk w g 105 #[.slice A n c, .int .i64 (s.at_ : Int), .bool s.short, .int .i64 s.p, .int .i64 s.l, .int .i64 s.k]) (hq : Blk w q 45 #[.bool d.alone, .bool d.start, .int .i64 d.part, .bool d.hasPic, .bool d.wide, .int .i64 d.pic, .bool d.hasLevel, .int .i64 d.level, .bool d.hasTid, .bool d.hasKey, .int .i64 d.tid, .bool d.sync, .int .i64 d.key]) (hn : n ≤ 1000000) (hat : s.at_ ≤ 1000000) (s' : Rs) (hs : layS b s d = s') (d' : V8) (hd : layD b s d = d') :
    Calls Try.prog 79 #[.pointer (some ⟨g, 0, none⟩), .pointer (some ⟨q, 0, none⟩)] w fun e w' => e = .returned (.tuple #[]) ∧ Blk w' g 105 #[.slice A n c, .int .i64 (s'.at_ : Int), .bool s'.short, .int .i64 s'.p, .int .i64 s'.l, .int .i64 s'.k] ∧ Blk w' q 45 #[.bool d'.alone, .bool d'.start, .int .i64 d'.part, .bool d'.hasPic, .bool d'.wide, .int .i64 d'.pic, .bool d'.hasLevel, .int .i64 d'.level, .bool d'.hasTid, .bool d'.hasKey, .int .i64 d'.tid, .bool d'.sync, .int .i64 d'.key] ∧ Chg (fun x => x = g ∨ x = q) w w' := by
  obtain ⟨v, hv⟩ : ∃ v, tkN b s 1 = v := ⟨_, rfl⟩
  obtain ⟨a, ha⟩ : ∃ v, tkA b s 1 = v := ⟨_, rfl⟩
  obtain ⟨s1, hs1⟩ : ∃ v, tkS b s 1 = v := ⟨_, rfl⟩
  have hk : s1.k = s.k := by rw [← hs1]; unfold tkS; split <;> rfl
  have S1 := hide (fun W h h' => take_any g A n c b 1 s W h h' (by omega) (by omega) hn hat v hv a ha s1 hs1)
  have hv8 := tkN_lt1 b s
  rw [hv] at hv8
  unfold layS at hs
  unfold layD at hd
  rw [ha, hs1, ← hk] at hs
  rw [hv] at hd
  have e1 : decide ((0 : Int) < bits .and .i64 (v : Int) 32) = decide (v / 32 % 2 = 1) := by
    have h := i64_and_natV v 32 (by omega) (by omega)
    rw [and_bit5] at h
    have h' : bits .and .i64 (v : Int) 32 = ((v / 32 % 2 * 32 : Nat) : Int) := h
    rw [h', decide_eq_decide]
    omega
  have e2 : bits .and .i64 (v : Int) 31 = ((v % 32 : Nat) : Int) := by
    have h := i64_and_natV v 31 (by omega) (by omega)
    rw [show v &&& 31 = v % 32 from Nat.and_two_pow_sub_one_eq_mod v 5] at h
    exact h
  have e3 : (v : Int) / 64 = ((v / 64 : Nat) : Int) := by omega
  have e4 : IntKind.i64.wrap (((v / 64 : Nat) : Int)) = ((v / 64 : Nat) : Int) := IntWalk.i64_in _ (by omega)
  have HE := hide (And.intro e1 (And.intro e2 (And.intro e3 e4)))
  obtain ⟨da, ds, dp, dhp, dwi, dpc, dhl, dlv, dht, dhk, dti, dsy, dky⟩ := d
  dsimp only at *
  clear hv ha hs1 hk e1 e2 e3 e4
  cases dht
  · cases dhk
    · simp only [Bool.false_eq_true, if_false] at hs hd
      have HS := hide (And.intro hs hd)
      clear hs hd
      go_enter Try.func79, Try.ntmps79
      go_wp2_with fail
      refine (S1.out _ hb hg).mono ?_
      rintro e w1 ⟨rfl, hg1, hC⟩
      have hq1 := hC.blk q _ _ (fun e => hgq e.symm) hq
      obtain ⟨⟨y0, y1, y2, y3, y4, y5⟩, yf, _⟩ := hg1.sixR
      obtain ⟨⟨x0, x1, x2, x3, x4, x5, x6, x7, x8, x9, x10, x11, x12⟩, xf, _⟩ := hq1.thirteen
      go_wp2_with fail
      obtain ⟨rfl, rfl⟩ := HS.out
      obtain ⟨e1, e2, e3, e4⟩ := HE.out
      have hgf := hg1.far (p := ⟨q, 11, none⟩) (by show g ≠ q; exact hgq) (.bool (decide (0 < bits .and .i64 (v : Int) 32)))
      have hqf := hq1.set_ 11 (.bool (decide (0 < bits .and .i64 (v : Int) 32)))
      simp only [List.setIfInBounds_toArray, List.set_cons_zero, List.set_cons_succ] at hgf hqf
      have hCf := (hC.mono (T := fun x => x = g ∨ x = q) fun x e => .inl e).trans (Chg.set_ w1 q 11 (.bool (decide (0 < bits .and .i64 (v : Int) 32))) (.inr rfl))
      rw [e1] at hgf hqf hCf
      try simp only [e1]
      exact bodyPost_end (v := .tuple #[]) (by simp [results, Try.results79, go_sem]) rfl ⟨rfl, hgf, hqf, hCf⟩
    · simp only [if_true, Bool.false_eq_true, if_false] at hs hd
      have HS := hide (And.intro hs hd)
      clear hs hd
      go_enter Try.func79, Try.ntmps79
      go_wp2_with fail
      refine (S1.out _ hb hg).mono ?_
      rintro e w1 ⟨rfl, hg1, hC⟩
      have hq1 := hC.blk q _ _ (fun e => hgq e.symm) hq
      obtain ⟨⟨y0, y1, y2, y3, y4, y5⟩, yf, _⟩ := hg1.sixR
      obtain ⟨⟨x0, x1, x2, x3, x4, x5, x6, x7, x8, x9, x10, x11, x12⟩, xf, _⟩ := hq1.thirteen
      go_wp2_with fail
      obtain ⟨rfl, rfl⟩ := HS.out
      obtain ⟨e1, e2, e3, e4⟩ := HE.out
      have hgf := ((hg1.far (p := ⟨q, 11, none⟩) (by show g ≠ q; exact hgq) (.bool (decide (0 < bits .and .i64 (v : Int) 32)))).far (p := ⟨q, 12, none⟩) (by show g ≠ q; exact hgq) (.int .i64 (bits .and .i64 (v : Int) 31))).set_ 5 (.int .i64 a)
      have hqf := ((hq1.set_ 11 (.bool (decide (0 < bits .and .i64 (v : Int) 32)))).set_ 12 (.int .i64 (bits .and .i64 (v : Int) 31))).far (p := ⟨g, 5, none⟩) (by show q ≠ g; exact fun e => hgq e.symm) (.int .i64 a)
      simp only [List.setIfInBounds_toArray, List.set_cons_zero, List.set_cons_succ] at hgf hqf
      have hCf := (((hC.mono (T := fun x => x = g ∨ x = q) fun x e => .inl e).trans (Chg.set_ w1 q 11 (.bool (decide (0 < bits .and .i64 (v : Int) 32))) (.inr rfl))).trans (Chg.set_ _ q 12 (.int .i64 (bits .and .i64 (v : Int) 31)) (.inr rfl))).trans (Chg.set_ _ g 5 (.int .i64 a) (.inl rfl))
      rw [e1, e2] at hgf hqf hCf
      try simp only [e1, e2]
      exact bodyPost_end (v := .tuple #[]) (by simp [results, Try.results79, go_sem]) rfl ⟨rfl, hgf, hqf, hCf⟩
  · cases dhk
    · simp only [if_true, Bool.false_eq_true, if_false] at hs hd
      have HS := hide (And.intro hs hd)
      clear hs hd
      go_enter Try.func79, Try.ntmps79
      go_wp2_with fail
      refine (S1.out _ hb hg).mono ?_
      rintro e w1 ⟨rfl, hg1, hC⟩
      have hq1 := hC.blk q _ _ (fun e => hgq e.symm) hq
      obtain ⟨⟨y0, y1, y2, y3, y4, y5⟩, yf, _⟩ := hg1.sixR
      obtain ⟨⟨x0, x1, x2, x3, x4, x5, x6, x7, x8, x9, x10, x11, x12⟩, xf, _⟩ := hq1.thirteen
      go_wp2_with fail
      obtain ⟨rfl, rfl⟩ := HS.out
      obtain ⟨e1, e2, e3, e4⟩ := HE.out
      have hgf := (hg1.far (p := ⟨q, 11, none⟩) (by show g ≠ q; exact hgq) (.bool (decide (0 < bits .and .i64 (v : Int) 32)))).far (p := ⟨q, 10, none⟩) (by show g ≠ q; exact hgq) (.int .i64 ((v : Int) / 64))
      have hqf := (hq1.set_ 11 (.bool (decide (0 < bits .and .i64 (v : Int) 32)))).set_ 10 (.int .i64 ((v : Int) / 64))
      simp only [List.setIfInBounds_toArray, List.set_cons_zero, List.set_cons_succ] at hgf hqf
      have hCf := ((hC.mono (T := fun x => x = g ∨ x = q) fun x e => .inl e).trans (Chg.set_ w1 q 11 (.bool (decide (0 < bits .and .i64 (v : Int) 32))) (.inr rfl))).trans (Chg.set_ _ q 10 (.int .i64 ((v : Int) / 64)) (.inr rfl))
      rw [e1, e3] at hgf hqf hCf
      try simp only [e1, e3]
      exact bodyPost_end (v := .tuple #[]) (by simp [results, Try.results79, go_sem]) rfl ⟨rfl, hgf, hqf, hCf⟩
    · simp only [if_true] at hs hd
      have HS := hide (And.intro hs hd)
      clear hs hd
      go_enter Try.func79, Try.ntmps79
      go_wp2_with fail
      refine (S1.out _ hb hg).mono ?_
      rintro e w1 ⟨rfl, hg1, hC⟩
      have hq1 := hC.blk q _ _ (fun e => hgq e.symm) hq
      obtain ⟨⟨y0, y1, y2, y3, y4, y5⟩, yf, _⟩ := hg1.sixR
      obtain ⟨⟨x0, x1, x2, x3, x4, x5, x6, x7, x8, x9, x10, x11, x12⟩, xf, _⟩ := hq1.thirteen
      go_wp2_with fail
      obtain ⟨rfl, rfl⟩ := HS.out
      obtain ⟨e1, e2, e3, e4⟩ := HE.out
      have hgf := (((hg1.far (p := ⟨q, 11, none⟩) (by show g ≠ q; exact hgq) (.bool (decide (0 < bits .and .i64 (v : Int) 32)))).far (p := ⟨q, 10, none⟩) (by show g ≠ q; exact hgq) (.int .i64 ((v : Int) / 64))).far (p := ⟨q, 12, none⟩) (by show g ≠ q; exact hgq) (.int .i64 (bits .and .i64 (v : Int) 31))).set_ 5 (.int .i64 a)
      have hqf := (((hq1.set_ 11 (.bool (decide (0 < bits .and .i64 (v : Int) 32)))).set_ 10 (.int .i64 ((v : Int) / 64))).set_ 12 (.int .i64 (bits .and .i64 (v : Int) 31))).far (p := ⟨g, 5, none⟩) (by show q ≠ g; exact fun e => hgq e.symm) (.int .i64 a)
      simp only [List.setIfInBounds_toArray, List.set_cons_zero, List.set_cons_succ] at hgf hqf
      have hCf := ((((hC.mono (T := fun x => x = g ∨ x = q) fun x e => .inl e).trans (Chg.set_ w1 q 11 (.bool (decide (0 < bits .and .i64 (v : Int) 32))) (.inr rfl))).trans (Chg.set_ _ q 10 (.int .i64 ((v : Int) / 64)) (.inr rfl))).trans (Chg.set_ _ q 12 (.int .i64 (bits .and .i64 (v : Int) 31)) (.inr rfl))).trans (Chg.set_ _ g 5 (.int .i64 a) (.inl rfl))
      rw [e1, e3, e2] at hgf hqf hCf
      try simp only [e1, e2, e3]
      exact bodyPost_end (v := .tuple #[]) (by simp [results, Try.results79, go_sem]) rfl ⟨rfl, hgf, hqf, hCf⟩
end Go.Proofs.Ytcdacnhggpfnaaa

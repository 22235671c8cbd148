/- Layer 23 in plain Lean: numbers of a descriptor set. No program in sight. -/
import Derived.Test.YtcdacnhggpfnaaaPlainVp8C
namespace Go.Proofs.Ytcdacnhggpfnaaa
def out_ (c : Bool) (n m : Int) : Prop := c = true ∧ n ≠ -1 ∧ (n < 0 ∨ m < n)
instance (c : Bool) (n m : Int) : Decidable (out_ c n m) := by unfold out_; exact inferInstance
def vsE (b : List UInt8) (pic lev key : Int) : Int :=
  if vrE b ≠ 0 then vrE b else
  if out_ (vrD b).hasPic pic (v8W (vrD b)) ∨ out_ (vrD b).hasLevel lev 255 ∨ out_ (vrD b).hasKey key 31 then 6 else 0
def nP (d : V8) (pic : Int) (p : List UInt8) : List UInt8 := if d.hasPic = true ∧ pic ≠ -1 then (if d.wide = true then be 2 (32768 + pic.toNat) else [UInt8.ofNat pic.toNat]) else p
def nL (d : V8) (lev : Int) (l : List UInt8) : List UInt8 := if d.hasLevel = true ∧ lev ≠ -1 then [UInt8.ofNat lev.toNat] else l
def nK (d : V8) (key : Int) (k : List UInt8) : List UInt8 := if d.hasKey = true ∧ key ≠ -1 then [UInt8.ofNat (val k / 32 * 32 + key.toNat)] else k
def vs1 (b : List UInt8) (s : Rs) (d : V8) (pic : Int) : List UInt8 := if d.hasPic = true ∧ pic ≠ -1 then (if d.wide = true then (b.set s.p.toNat (UInt8.ofNat ((32768 + pic.toNat) / 256))).set (s.p.toNat + 1) (UInt8.ofNat pic.toNat) else b.set s.p.toNat (UInt8.ofNat pic.toNat)) else b
def vs2 (b : List UInt8) (s : Rs) (d : V8) (lev : Int) : List UInt8 := if d.hasLevel = true ∧ lev ≠ -1 then b.set s.l.toNat (UInt8.ofNat lev.toNat) else b
def vs3 (b : List UInt8) (s : Rs) (d : V8) (key : Int) : List UInt8 := if d.hasKey = true ∧ key ≠ -1 then b.set s.k.toNat (UInt8.ofNat ((b.getD s.k.toNat 0).toNat / 32 * 32 + key.toNat)) else b
def vsL (b : List UInt8) (pic lev key : Int) : List UInt8 := if vsE b pic lev key = 0 then vs3 (vs2 (vs1 b (vrS b) (vrD b) pic) (vrS b) (vrD b) lev) (vrS b) (vrD b) key else []
def upd (d : V8) (pic lev key : Int) : V8 := { d with pic := if d.hasPic = true ∧ pic ≠ -1 then pic else d.pic, level := if d.hasLevel = true ∧ lev ≠ -1 then lev else d.level, key := if d.hasKey = true ∧ key ≠ -1 then key else d.key }
theorem vsE_zero {b : List UInt8} {pic lev key : Int} (h : vsE b pic lev key = 0) : vrE b = 0 ∧ ¬ out_ (vrD b).hasPic pic (v8W (vrD b)) ∧ ¬ out_ (vrD b).hasLevel lev 255 ∧ ¬ out_ (vrD b).hasKey key 31 := by
  unfold vsE at h
  by_cases h0 : vrE b = 0
  · rw [if_neg (by rw [h0]; decide)] at h
    split at h
    · cases h
    · rename_i h1
      simp only [not_or] at h1
      exact ⟨h0, h1⟩
  · rw [if_pos h0] at h; exact absurd h h0
theorem vsE_of {b : List UInt8} {pic lev key : Int} (h0 : vrE b = 0) (h1 : ¬ out_ (vrD b).hasPic pic (v8W (vrD b))) (h2 : ¬ out_ (vrD b).hasLevel lev 255) (h3 : ¬ out_ (vrD b).hasKey key 31) : vsE b pic lev key = 0 := by
  unfold vsE
  rw [if_neg (by rw [h0]; decide), if_neg (by simp only [not_or]; exact ⟨h1, h2, h3⟩)]
theorem out_not {c : Bool} {n m : Int} (h : ¬ out_ c n m) (h1 : c = true) (h2 : n ≠ -1) : 0 ≤ n ∧ n ≤ m := by
  unfold out_ at h
  have : ¬ (n < 0 ∨ m < n) := fun z => h ⟨h1, h2, z⟩
  omega
theorem out_none (c : Bool) (m : Int) : ¬ out_ c (-1) m := fun h => h.2.1 rfl
theorem set_cat (pre z : List UInt8) (x y : UInt8) (n : Nat) (h : n = pre.length) : (pre ++ x :: z).set n y = pre ++ y :: z := by subst h; simp
theorem getD_cat (pre z : List UInt8) (x : UInt8) (n : Nat) (h : n = pre.length) : (pre ++ x :: z).getD n 0 = x := by subst h; simp
theorem dec_has {f g : UInt8} {p l k : List UInt8} : (dec f g p l k).hasPic = (d2of f g).hasPic ∧ (dec f g p l k).hasLevel = (d2of f g).hasLevel ∧ (dec f g p l k).hasKey = (d2of f g).hasKey ∧ (dec f g p l k).hasTid = (d2of f g).hasTid ∧ (dec f g p l k).wide = decide (p.length = 2) := ⟨rfl, rfl, rfl, rfl, rfl⟩
theorem hi_of (f g : UInt8) (h : (d2of f g).hasPic = true ∨ (d2of f g).hasLevel = true ∨ (d2of f g).hasTid = true ∨ (d2of f g).hasKey = true) : 128 ≤ f.toNat := by
  rcases Nat.lt_or_ge f.toNat 128 with q | q
  · obtain ⟨a, b, c, d⟩ := d2of_low (f := f) (h := g) (by omega)
    rw [a, b, c, d] at h
    simp at h
  · exact q
/-- What a set makes of the parts. -/
theorem vs_enc {f g : UInt8} {p l k z b : List UInt8} (H : Wf f g p l k) (hb : b = enc f g p l k ++ z) {pic lev key : Int} (h : vsE b pic lev key = 0) :
    vsL b pic lev key = enc f g (nP (vrD b) pic p) (nL (vrD b) lev l) (nK (vrD b) key k) ++ z ∧ Wf f g (nP (vrD b) pic p) (nL (vrD b) lev l) (nK (vrD b) key k) ∧ (nP (vrD b) pic p).length = p.length ∧ (nL (vrD b) lev l).length = l.length ∧ (nK (vrD b) key k).length = k.length ∧ dec f g (nP (vrD b) pic p) (nL (vrD b) lev l) (nK (vrD b) key k) = upd (vrD b) pic lev key := by
  obtain ⟨h0, n1, n2, n3⟩ := vsE_zero h
  obtain ⟨e1, e2, e3⟩ := vr_enc H hb h0
  obtain ⟨d1, d2, d3, d4, d5⟩ := dec_has (f := f) (g := g) (p := p) (l := l) (k := k)
  unfold vsL
  rw [if_pos h, e3, e1]
  rw [e1] at n1 n2 n3
  have c1 := out_not n1
  have c2 := out_not n2
  have c3 := out_not n3
  clear n1 n2 n3 e1 e2 e3 h h0
  obtain ⟨q1, q2, q3⟩ := H
  have w5 : v8W (dec f g p l k) = if decide (p.length = 2) = true then 32767 else 127 := rfl
  rw [d1, w5] at c1
  rw [d2] at c2
  rw [d3] at c3
  -- the picture's number
  have P : vs1 b ⟨(enc f g p l k).length, false, if (d2of f g).hasPic = true then 2 else 0, if (d2of f g).hasLevel = true then ((2 + p.length : Nat) : Int) else 0, if (d2of f g).hasKey = true then ((2 + p.length + l.length : Nat) : Int) else 0⟩ (dec f g p l k) pic = enc f g (nP (dec f g p l k) pic p) l k ++ z ∧ pw (d2of f g).hasPic (nP (dec f g p l k) pic p) ∧ (nP (dec f g p l k) pic p).length = p.length ∧ ((val (nP (dec f g p l k) pic p) % 32768 : Nat) : Int) = if (d2of f g).hasPic = true ∧ pic ≠ -1 then pic else ((val p % 32768 : Nat) : Int) := by
    unfold vs1 nP
    dsimp only
    rw [d1, d5]
    by_cases hc : (d2of f g).hasPic = true ∧ pic ≠ -1
    · have hf := hi_of f g (.inl hc.1)
      have hp := c1 hc.1 hc.2
      rw [if_pos hc, if_pos hc, if_pos hc.1, if_pos hc]
      obtain ⟨n, rfl⟩ := Int.eq_ofNat_of_zero_le hp.1
      have hp2 := hp.2
      rw [Int.toNat_natCast]
      rcases q1 with ⟨h1, _⟩ | ⟨_, ⟨x, rfl, hx⟩ | ⟨x, y, rfl, hx⟩⟩
      · rw [h1] at hc; cases hc.1
      · rw [if_neg (by simp), if_neg (by simp)]
        rw [if_neg (by simp)] at hp2
        unfold enc at hb ⊢
        rw [if_pos hf] at hb ⊢
        refine ⟨?_, .inr ⟨hc.1, .inl ⟨_, rfl, by rw [UInt8.toNat_ofNat']; omega⟩⟩, rfl, ?_⟩
        · rw [hb]; simp
        · rw [val1, UInt8.toNat_ofNat']; omega
      · rw [if_pos (by simp), if_pos (by simp)]
        rw [if_pos (by simp)] at hp2
        unfold enc at hb ⊢
        rw [if_pos hf] at hb ⊢
        have e : UInt8.ofNat (32768 + n) = UInt8.ofNat n := by
          apply UInt8.toNat_inj.1
          rw [UInt8.toNat_ofNat', UInt8.toNat_ofNat']; omega
        refine ⟨?_, .inr ⟨hc.1, .inr ⟨_, _, be2 _, by rw [UInt8.toNat_ofNat']; omega⟩⟩, by rw [be_length]; rfl, ?_⟩
        · rw [hb, be2, e]; simp
        · rw [val_be]; omega
    · rw [if_neg hc, if_neg hc, if_neg hc]
      exact ⟨hb, q1, rfl, rfl⟩
  obtain ⟨p1, p2, p3, p4⟩ := P
  rw [p1]
  generalize hP : nP (dec f g p l k) pic p = p' at *
  have L : ∀ b', b' = enc f g p' l k ++ z → vs2 b' ⟨(enc f g p l k).length, false, if (d2of f g).hasPic = true then 2 else 0, if (d2of f g).hasLevel = true then ((2 + p.length : Nat) : Int) else 0, if (d2of f g).hasKey = true then ((2 + p.length + l.length : Nat) : Int) else 0⟩ (dec f g p l k) lev = enc f g p' (nL (dec f g p l k) lev l) k ++ z ∧ ow (d2of f g).hasLevel (nL (dec f g p l k) lev l) ∧ (nL (dec f g p l k) lev l).length = l.length ∧ (val (nL (dec f g p l k) lev l) : Int) = if (d2of f g).hasLevel = true ∧ lev ≠ -1 then lev else (val l : Int) := by
    intro b' hb'
    unfold vs2 nL
    dsimp only
    rw [d2]
    by_cases hc : (d2of f g).hasLevel = true ∧ lev ≠ -1
    · have hf := hi_of f g (.inr (.inl hc.1))
      have hp := c2 hc.1 hc.2
      rw [if_pos hc, if_pos hc, if_pos hc.1, if_pos hc]
      obtain ⟨n, rfl⟩ := Int.eq_ofNat_of_zero_le hp.1
      rw [Int.toNat_natCast, Int.toNat_natCast]
      rcases q2 with ⟨h1, _⟩ | ⟨_, x, rfl⟩
      · rw [h1] at hc; cases hc.1
      · unfold enc at hb' ⊢
        rw [if_pos hf] at hb' ⊢
        refine ⟨?_, .inr ⟨hc.1, _, rfl⟩, rfl, ?_⟩
        · rw [hb', show ([f, g] ++ p' ++ [x] ++ k ++ z : List UInt8) = ([f, g] ++ p') ++ x :: (k ++ z) by simp, set_cat _ _ _ _ _ (by simp [p3]; omega)]
          simp
        · rw [val1, UInt8.toNat_ofNat']; omega
    · rw [if_neg hc, if_neg hc, if_neg hc]
      exact ⟨hb', q2, rfl, rfl⟩
  obtain ⟨l1, l2, l3, l4⟩ := L _ rfl
  rw [l1]
  generalize hL : nL (dec f g p l k) lev l = l' at *
  have K : ∀ b', b' = enc f g p' l' k ++ z → vs3 b' ⟨(enc f g p l k).length, false, if (d2of f g).hasPic = true then 2 else 0, if (d2of f g).hasLevel = true then ((2 + p.length : Nat) : Int) else 0, if (d2of f g).hasKey = true then ((2 + p.length + l.length : Nat) : Int) else 0⟩ (dec f g p l k) key = enc f g p' l' (nK (dec f g p l k) key k) ++ z ∧ ow ((d2of f g).hasTid || (d2of f g).hasKey) (nK (dec f g p l k) key k) ∧ (nK (dec f g p l k) key k).length = k.length ∧ val (nK (dec f g p l k) key k) / 32 = val k / 32 ∧ ((val (nK (dec f g p l k) key k) % 32 : Nat) : Int) = if (d2of f g).hasKey = true ∧ key ≠ -1 then key else ((val k % 32 : Nat) : Int) := by
    intro b' hb'
    unfold vs3 nK
    dsimp only
    rw [d3]
    by_cases hc : (d2of f g).hasKey = true ∧ key ≠ -1
    · have hf := hi_of f g (.inr (.inr (.inr hc.1)))
      have hp := c3 hc.1 hc.2
      rw [if_pos hc, if_pos hc, if_pos hc.1, if_pos hc]
      obtain ⟨n, rfl⟩ := Int.eq_ofNat_of_zero_le hp.1
      rw [Int.toNat_natCast, Int.toNat_natCast]
      rcases q3 with ⟨h1, _⟩ | ⟨h3, x, rfl⟩
      · rw [hc.1] at h1; simp at h1
      · unfold enc at hb' ⊢
        rw [if_pos hf] at hb' ⊢
        have hx := x.toNat_lt
        refine ⟨?_, .inr ⟨h3, _, rfl⟩, rfl, ?_, ?_⟩
        · rw [hb', show ([f, g] ++ p' ++ l' ++ [x] ++ z : List UInt8) = ([f, g] ++ p' ++ l') ++ x :: z by simp, set_cat _ _ _ _ _ (by simp [p3, l3]; omega), getD_cat _ _ _ _ (by simp [p3, l3]; omega), val1]
          simp
        · rw [val1, val1, UInt8.toNat_ofNat']; omega
        · rw [val1, val1, UInt8.toNat_ofNat']; omega
    · rw [if_neg hc, if_neg hc, if_neg hc]
      exact ⟨hb', q3, rfl, rfl, rfl⟩
  obtain ⟨k1, k2, k3, k4, k5⟩ := K _ rfl
  rw [k1]
  generalize hK : nK (dec f g p l k) key k = k' at *
  refine ⟨rfl, ⟨p2, l2, k2⟩, p3, l3, k3, ?_⟩
  have k6 : val k' / 64 = val k / 64 := by omega
  have hkey : (if (d2of f g).hasKey = true then ((val k' % 32 : Nat) : Int) else 0) = if (d2of f g).hasKey = true ∧ key ≠ -1 then key else (if (d2of f g).hasKey = true then ((val k % 32 : Nat) : Int) else 0) := by
    rw [k5]
    by_cases hk : (d2of f g).hasKey = true
    · by_cases hq : key = -1 <;> simp [hk, hq]
    · simp [hk]
  unfold upd
  rw [d1, d2, d3]
  unfold dec
  rw [p3, p4, l4, k4, k6, hkey]
theorem len_of {p q : List UInt8} (h : p.length = q.length) (f g : UInt8) (l l' k k' : List UInt8) (hl : l.length = l'.length) (hk : k.length = k'.length) : (enc f g p l k).length = (enc f g q l' k').length := by
  unfold enc; split <;> simp [h, hl, hk]
/-- What is set is there, and what is behind stays. -/
theorem vs_read {b : List UInt8} {pic lev key : Int} (h : vsE b pic lev key = 0) : vrE (vsL b pic lev key) = 0 ∧ vrD (vsL b pic lev key) = upd (vrD b) pic lev key ∧ vrN (vsL b pic lev key) = vrN b ∧ (vsL b pic lev key).length = b.length ∧ (vsL b pic lev key).drop (vrN b) = b.drop (vrN b) := by
  obtain ⟨h0, -⟩ := vsE_zero h
  obtain ⟨f, g, p, l, k, z, H, hb, hc⟩ := vr_un h0
  obtain ⟨e1, e2, -⟩ := vr_enc H hb h0
  obtain ⟨x1, x2, x3, x4, x5, x6⟩ := vs_enc H hb h
  have hE : vrE (vsL b pic lev key) = 0 := by rw [(rdE_dec x2 x1).1, if_neg hc]
  obtain ⟨y1, y2, -⟩ := vr_enc x2 x1 hE
  have hlen := len_of x3 f g _ _ _ _ x4 x5
  refine ⟨hE, by rw [y1, x6], by rw [y2, e2, hlen], ?_, ?_⟩
  · rw [x1, List.length_append, hlen, ← List.length_append, ← hb]
  · have hd : ∀ (e e' : List UInt8), e.length = e'.length → (e ++ z).drop e'.length = z := fun e e' h => by rw [← h, List.drop_left]
    rw [e2, x1, hd _ _ hlen]
    clear x1 x2 x3 x4 x5 x6 hE y1 y2 hlen e1 e2 h h0
    rw [hb]
    exact (hd _ _ rfl).symm
/-- What is set to what was there changes nothing. -/
theorem vs_same {b : List UInt8} {pic lev key : Int} (h : vsE b pic lev key = 0) : vsE (vsL b pic lev key) (vrD b).pic (vrD b).level (vrD b).key = 0 ∧ vsL (vsL b pic lev key) (vrD b).pic (vrD b).level (vrD b).key = b := by
  obtain ⟨h0, n1, n2, n3⟩ := vsE_zero h
  obtain ⟨a1, a2, a3, a4, a5⟩ := vs_read h
  obtain ⟨f, g, p, l, k, z, H, hb, hc⟩ := vr_un h0
  obtain ⟨e1, e2, -⟩ := vr_enc H hb h0
  obtain ⟨x1, x2, x3, x4, x5, x6⟩ := vs_enc H hb h
  have hr := v8Right_iff (v8_read h0).1
  obtain ⟨r1, r2, r3, r4, r5, r6⟩ := hr
  have hE : vsE (vsL b pic lev key) (vrD b).pic (vrD b).level (vrD b).key = 0 := by
    refine vsE_of a1 ?_ ?_ ?_
    all_goals
      rw [a2]
      unfold out_ upd
      rintro ⟨_, _, c⟩
    · have : v8W { vrD b with pic := if (vrD b).hasPic = true ∧ pic ≠ -1 then pic else (vrD b).pic, level := if (vrD b).hasLevel = true ∧ lev ≠ -1 then lev else (vrD b).level, key := if (vrD b).hasKey = true ∧ key ≠ -1 then key else (vrD b).key } = v8W (vrD b) := rfl
      rw [this] at c
      omega
    · omega
    · omega
  refine ⟨hE, ?_⟩
  obtain ⟨y1, y2, y3, y4, y5, y6⟩ := vs_enc x2 x1 hE
  rw [y1]
  rw [a2] at *
  have hu : (upd (vrD b) pic lev key).hasPic = (vrD b).hasPic ∧ (upd (vrD b) pic lev key).wide = (vrD b).wide ∧ (upd (vrD b) pic lev key).hasLevel = (vrD b).hasLevel ∧ (upd (vrD b) pic lev key).hasKey = (vrD b).hasKey := ⟨rfl, rfl, rfl, rfl⟩
  obtain ⟨u1, u2, u3, u4⟩ := hu
  obtain ⟨d1, d2, d3, d4, d5⟩ := dec_has (f := f) (g := g) (p := p) (l := l) (k := k)
  obtain ⟨q1, q2, q3⟩ := H
  have P : nP (upd (vrD b) pic lev key) (vrD b).pic (nP (vrD b) pic p) = p := by
    unfold nP
    rw [u1, u2, e1, d1, d5]
    by_cases hc1 : (d2of f g).hasPic = true
    · have hpp : (dec f g p l k).pic = ((val p % 32768 : Nat) : Int) := rfl
      rw [hpp, if_pos ⟨hc1, by omega⟩, Int.toNat_natCast]
      rcases q1 with ⟨h1, _⟩ | ⟨_, ⟨x, rfl, hx⟩ | ⟨x, y, rfl, hx⟩⟩
      · rw [h1] at hc1; cases hc1
      · rw [if_neg (by simp), val1]
        congr 1
        apply UInt8.toNat_inj.1
        rw [UInt8.toNat_ofNat']; omega
      · rw [if_pos (by simp), val2, be2]
        have hx2 := x.toNat_lt
        have hy2 := y.toNat_lt
        congr 1
        · apply UInt8.toNat_inj.1
          rw [UInt8.toNat_ofNat']; omega
        · congr 1
          apply UInt8.toNat_inj.1
          rw [UInt8.toNat_ofNat']; omega
    · rw [if_neg (fun z => hc1 z.1), if_neg (fun z => hc1 z.1)]
  have L : nL (upd (vrD b) pic lev key) (vrD b).level (nL (vrD b) lev l) = l := by
    unfold nL
    rw [u3, e1, d2]
    by_cases hc1 : (d2of f g).hasLevel = true
    · have hpp : (dec f g p l k).level = (val l : Int) := rfl
      rw [hpp, if_pos ⟨hc1, by omega⟩, Int.toNat_natCast]
      rcases q2 with ⟨h1, _⟩ | ⟨_, x, rfl⟩
      · rw [h1] at hc1; cases hc1
      · rw [val1]
        congr 1
        apply UInt8.toNat_inj.1
        rw [UInt8.toNat_ofNat']; have := x.toNat_lt; omega
    · rw [if_neg (fun z => hc1 z.1), if_neg (fun z => hc1 z.1)]
  have K : nK (upd (vrD b) pic lev key) (vrD b).key (nK (vrD b) key k) = k := by
    have hv : val (nK (vrD b) key k) / 32 = val k / 32 := by
      unfold nK
      split
      · rename_i hcc
        have hp := out_not n3 hcc.1 hcc.2
        rw [val1, UInt8.toNat_ofNat']
        rcases q3 with ⟨_, rfl⟩ | ⟨_, x, rfl⟩
        · simp [val]; omega
        · rw [val1]; have := x.toNat_lt; omega
      · rfl
    have hz : ∀ kk, val kk / 32 = val k / 32 → nK (upd (vrD b) pic lev key) (vrD b).key kk = if (d2of f g).hasKey = true then k else kk := by
      intro kk hkk
      unfold nK
      rw [u4, e1, d3]
      by_cases hc1 : (d2of f g).hasKey = true
      · have hpp : (dec f g p l k).key = if (d2of f g).hasKey = true then ((val k % 32 : Nat) : Int) else 0 := rfl
        rw [hpp, if_pos hc1, if_pos ⟨hc1, by omega⟩, Int.toNat_natCast, hkk, if_pos hc1]
        rcases q3 with ⟨h1, _⟩ | ⟨_, x, rfl⟩
        · rw [hc1] at h1; simp at h1
        · rw [val1]
          congr 1
          apply UInt8.toNat_inj.1
          rw [UInt8.toNat_ofNat']; have := x.toNat_lt; omega
      · rw [if_neg (fun z => hc1 z.1), if_neg hc1]
    rw [hz _ hv]
    split
    · rfl
    · rename_i hcc
      unfold nK
      rw [e1, d3, if_neg (fun z => hcc z.1)]
  rw [P, L, K, hb]
/-- What is told to be none stays. -/
theorem vs_none {b : List UInt8} (h : vrE b = 0) : vsE b (-1) (-1) (-1) = 0 ∧ vsL b (-1) (-1) (-1) = b := by
  have hE : vsE b (-1) (-1) (-1) = 0 := vsE_of h (out_none _ _) (out_none _ _) (out_none _ _)
  refine ⟨hE, ?_⟩
  unfold vsL vs1 vs2 vs3
  rw [if_pos hE]
  simp
/-- Two that are set one behind the other are as set at once. -/
theorem vs_two {b : List UInt8} {pic lev key : Int} (h : vsE b pic lev key = 0) : vsE b pic (-1) (-1) = 0 ∧ vsE (vsL b pic (-1) (-1)) (-1) lev key = 0 ∧ vsL (vsL b pic (-1) (-1)) (-1) lev key = vsL b pic lev key := by
  obtain ⟨h0, n1, n2, n3⟩ := vsE_zero h
  have hE1 : vsE b pic (-1) (-1) = 0 := vsE_of h0 n1 (out_none _ _) (out_none _ _)
  obtain ⟨a1, a2, a3, a4, a5⟩ := vs_read hE1
  have hE2 : vsE (vsL b pic (-1) (-1)) (-1) lev key = 0 := by
    refine vsE_of a1 (out_none _ _) ?_ ?_
    · rw [a2]; exact n2
    · rw [a2]; exact n3
  refine ⟨hE1, hE2, ?_⟩
  obtain ⟨f, g, p, l, k, z, H, hb, hc⟩ := vr_un h0
  obtain ⟨x1, x2, x3, x4, x5, x6⟩ := vs_enc H hb hE1
  obtain ⟨y1, -⟩ := vs_enc H hb h
  obtain ⟨z1, -⟩ := vs_enc x2 x1 hE2
  rw [z1, y1, a2]
  have u1 : ∀ q, nP (upd (vrD b) pic (-1) (-1)) (-1) q = q := fun q => by unfold nP; rw [if_neg (fun z => z.2 rfl)]
  have u2 : ∀ q, nL (upd (vrD b) pic (-1) (-1)) lev q = nL (vrD b) lev q := fun q => rfl
  have u3 : ∀ q, nK (upd (vrD b) pic (-1) (-1)) key q = nK (vrD b) key q := fun q => rfl
  have u4 : ∀ q, nL (vrD b) (-1) q = q := fun q => by unfold nL; rw [if_neg (fun z => z.2 rfl)]
  have u5 : ∀ q, nK (vrD b) (-1) q = q := fun q => by unfold nK; rw [if_neg (fun z => z.2 rfl)]
  rw [u1, u2, u3, u4, u5]
theorem vsL_fail {b : List UInt8} {pic lev key : Int} (h : vsE b pic lev key ≠ 0) : vsL b pic lev key = [] := by unfold vsL; rw [if_neg h]
end Go.Proofs.Ytcdacnhggpfnaaa

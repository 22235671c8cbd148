/- Layer 23 in plain Lean: what is read has a shape, and what has the shape is read. No program in sight. -/
import Derived.Test.YtcdacnhggpfnaaaPlainVp8R
namespace Go.Proofs.Ytcdacnhggpfnaaa
def rs0 : Rs := ⟨0, false, 0, 0, 0⟩
def vrS (b : List UInt8) : Rs := (rdAll b rs0).1
def vrD0 (b : List UInt8) : V8 := (rdAll b rs0).2
def vrE (b : List UInt8) : Int := rdE (vrS b) (vrD0 b)
def vrD (b : List UInt8) : V8 := rdV (vrS b) (vrD0 b)
def vrN (b : List UInt8) : Nat := if vrE b = 0 then (vrS b).at_ else 0
theorem tk1 {b pre z : List UInt8} {x : UInt8} {s : Rs} (hb : b = pre ++ x :: z) (hs : s.at_ = pre.length) : tkN b s 1 = x.toNat ∧ tkA b s 1 = (pre.length : Int) ∧ tkS b s 1 = ⟨pre.length + 1, s.short, s.p, s.l, s.k⟩ := by
  have hl : b.length = pre.length + (z.length + 1) := by rw [hb]; simp
  unfold tkN tkA tkS
  rw [if_pos (by omega), if_pos (by omega), if_pos (by omega), hs]
  refine ⟨?_, rfl, rfl⟩
  unfold getV
  rw [if_pos (by unfold getE; rw [if_neg (by omega), if_neg (by omega)]), hb]
  simp [val]
theorem tk2 {b pre z : List UInt8} {x y : UInt8} {s : Rs} (hb : b = pre ++ x :: y :: z) (hs : s.at_ = pre.length) : tkN b s 2 = 256 * x.toNat + y.toNat ∧ tkA b s 2 = (pre.length : Int) ∧ tkS b s 2 = ⟨pre.length + 2, s.short, s.p, s.l, s.k⟩ := by
  have hl : b.length = pre.length + (z.length + 2) := by rw [hb]; simp
  unfold tkN tkA tkS
  rw [if_pos (by omega), if_pos (by omega), if_pos (by omega), hs]
  refine ⟨?_, rfl, rfl⟩
  unfold getV
  rw [if_pos (by unfold getE; rw [if_neg (by omega), if_neg (by omega)]), hb]
  simp [val]
theorem tkS_short {b : List UInt8} {s : Rs} {k : Nat} (h : s.short = true ∨ b.length < s.at_ + k) : (tkS b s k).short = true := by
  unfold tkS
  split
  · rcases h with h | h
    · exact h
    · omega
  · rfl
theorem st3_short {b : List UInt8} {s : Rs} {d : V8} (h : s.short = true) : (st3 b s d).short = true := by
  unfold st3 picS
  split
  · split
    · exact tkS_short (k := 1) (.inl h)
    · exact tkS_short (k := 2) (s := { s with p := (s.at_ : Int) }) (.inl h)
  · exact h
theorem st4_short {b : List UInt8} {s : Rs} {d : V8} (h : s.short = true) : (st4 b s d).short = true := by
  unfold st4
  split
  · exact tkS_short (k := 1) (.inl h)
  · exact h
theorem st5_short {b : List UInt8} {s : Rs} {d : V8} (h : s.short = true) : (st5 b s d).short = true := by
  unfold st5 layS
  split
  · exact tkS_short (k := 1) (.inl h)
  · exact h
def pw (hp : Bool) (p : List UInt8) : Prop := (hp = false ∧ p = []) ∨ (hp = true ∧ ((∃ x, p = [x] ∧ x.toNat < 128) ∨ (∃ x y, p = [x, y] ∧ 128 ≤ x.toNat)))
def ow (c : Bool) (l : List UInt8) : Prop := (c = false ∧ l = []) ∨ (c = true ∧ ∃ x, l = [x])
theorem st3_enc {b pre p z : List UInt8} {s : Rs} {d : V8} (hb : b = pre ++ (p ++ z)) (hs : s.at_ = pre.length) (hp : pw d.hasPic p) (hw : d.wide = false) (hp0 : d.pic = 0) :
    st3 b s d = ⟨(pre ++ p).length, s.short, if d.hasPic = true then (pre.length : Int) else s.p, s.l, s.k⟩ ∧ sd3 b s d = { d with wide := decide (p.length = 2), pic := ((val p % 32768 : Nat) : Int) } := by
  unfold st3 sd3
  rcases hp with ⟨h1, rfl⟩ | ⟨h1, ⟨x, rfl, hx⟩ | ⟨x, y, rfl, hx⟩⟩
  · obtain ⟨da, ds, dp, dhp, dwi, dpc, dhl, dlv, dht, dhk, dti, dsy, dky⟩ := d
    dsimp only at hw hp0 h1 ⊢
    subst hw hp0 h1
    rw [if_neg (by decide), if_neg (by decide), if_neg (by decide)]
    refine ⟨?_, rfl⟩
    rw [List.append_nil, ← hs]
  · rw [if_pos h1, if_pos h1, if_pos h1]
    have t := tk1 (z := z) (x := x) (s := s) hb hs
    unfold picS picD
    rw [t.1, t.2.1, t.2.2, if_pos hx, if_pos hx]
    refine ⟨by simp, ?_⟩
    have : val [x] % 32768 = x.toNat := by simp [val]; omega
    rw [this]
    obtain ⟨da, ds, dp, dhp, dwi, dpc, dhl, dlv, dht, dhk, dti, dsy, dky⟩ := d
    dsimp only at hw
    subst hw
    rfl
  · rw [if_pos h1, if_pos h1, if_pos h1]
    have t := tk1 (z := y :: z) (x := x) (s := s) hb hs
    have t2 := tk2 (z := z) (x := x) (y := y) (s := s) hb hs
    have t3 := tk2 (z := z) (x := x) (y := y) (s := { s with p := (s.at_ : Int) }) hb hs
    unfold picS picD
    rw [t.1, if_neg (by omega), if_neg (by omega), t2.1, t2.2.1, t3.2.2]
    refine ⟨by simp, ?_⟩
    have : val [x, y] = 256 * x.toNat + y.toNat := by simp [val]
    rw [this]
    rfl
theorem st4_enc {b pre l z : List UInt8} {s : Rs} {d : V8} (hb : b = pre ++ (l ++ z)) (hs : s.at_ = pre.length) (hl : ow d.hasLevel l) (h0 : d.level = 0) :
    st4 b s d = ⟨(pre ++ l).length, s.short, s.p, if d.hasLevel = true then (pre.length : Int) else s.l, s.k⟩ ∧ sd4 b s d = { d with level := (val l : Int) } := by
  unfold st4 sd4
  rcases hl with ⟨h1, rfl⟩ | ⟨h1, x, rfl⟩
  · obtain ⟨da, ds, dp, dhp, dwi, dpc, dhl, dlv, dht, dhk, dti, dsy, dky⟩ := d
    dsimp only at h0 h1 ⊢
    subst h0 h1
    rw [if_neg (by decide), if_neg (by decide), if_neg (by decide)]
    refine ⟨?_, rfl⟩
    rw [List.append_nil, ← hs]
  · rw [if_pos h1, if_pos h1, if_pos h1]
    have t := tk1 (z := z) (x := x) (s := s) hb hs
    rw [t.1, t.2.1, t.2.2]
    refine ⟨by simp, ?_⟩
    have : val [x] = x.toNat := by simp [val]
    rw [this]
theorem st5_enc {b pre k z : List UInt8} {s : Rs} {d : V8} (hb : b = pre ++ (k ++ z)) (hs : s.at_ = pre.length) (hk : ow (d.hasTid || d.hasKey) k) (h0 : d.tid = 0) (h1 : d.sync = false) (h2 : d.key = 0) :
    st5 b s d = ⟨(pre ++ k).length, s.short, s.p, s.l, if d.hasKey = true then (pre.length : Int) else s.k⟩ ∧ sd5 b s d = { d with sync := decide (val k / 32 % 2 = 1), tid := if d.hasTid = true then ((val k / 64 : Nat) : Int) else 0, key := if d.hasKey = true then ((val k % 32 : Nat) : Int) else 0 } := by
  obtain ⟨da, ds, dp, dhp, dwi, dpc, dhl, dlv, dht, dhk, dti, dsy, dky⟩ := d
  dsimp only at h0 h1 h2 hk ⊢
  subst h0 h1 h2
  unfold st5 sd5
  rcases hk with ⟨h3, rfl⟩ | ⟨h3, x, rfl⟩
  · rw [Bool.or_eq_false_iff] at h3
    obtain ⟨rfl, rfl⟩ := h3
    rw [if_neg (by simp), if_neg (by simp)]
    refine ⟨?_, rfl⟩
    rw [List.append_nil, ← hs]
  · rw [Bool.or_eq_true] at h3
    have t := tk1 (z := z) (x := x) (s := s) hb hs
    rw [if_pos h3, if_pos h3]
    unfold layS layD
    have e : val [x] = x.toNat := by simp [val]
    rw [t.1, t.2.1, t.2.2, e]
    exact ⟨by simp, rfl⟩
def hNof (f h : UInt8) : Nat := if 128 ≤ f.toNat then h.toNat else 0
def d2of (f h : UInt8) : V8 := rd2D f.toNat (hNof f h)
structure Wf (f h : UInt8) (p l k : List UInt8) : Prop where
  p : pw (d2of f h).hasPic p
  l : ow (d2of f h).hasLevel l
  k : ow ((d2of f h).hasTid || (d2of f h).hasKey) k
def enc (f h : UInt8) (p l k : List UInt8) : List UInt8 := if 128 ≤ f.toNat then [f, h] ++ p ++ l ++ k else [f]
def dec (f h : UInt8) (p l k : List UInt8) : V8 :=
  { d2of f h with wide := decide (p.length = 2), pic := ((val p % 32768 : Nat) : Int), level := (val l : Int), sync := decide (val k / 32 % 2 = 1), tid := if (d2of f h).hasTid = true then ((val k / 64 : Nat) : Int) else 0, key := if (d2of f h).hasKey = true then ((val k % 32 : Nat) : Int) else 0 }
theorem d2of_low {f h : UInt8} (h1 : ¬ 128 ≤ f.toNat) : (d2of f h).hasPic = false ∧ (d2of f h).hasLevel = false ∧ (d2of f h).hasTid = false ∧ (d2of f h).hasKey = false := by
  unfold d2of hNof
  rw [if_neg h1]
  exact ⟨rfl, rfl, rfl, rfl⟩
theorem Wf.low {f h : UInt8} {p l k : List UInt8} (H : Wf f h p l k) (h1 : ¬ 128 ≤ f.toNat) : p = [] ∧ l = [] ∧ k = [] := by
  obtain ⟨e1, e2, e3, e4⟩ := d2of_low (h := h) h1
  obtain ⟨q1, q2, q3⟩ := H
  rw [e1] at q1
  rw [e2] at q2
  rw [e3, e4] at q3
  refine ⟨?_, ?_, ?_⟩
  · rcases q1 with ⟨_, h⟩ | ⟨h, _⟩
    · exact h
    · cases h
  · rcases q2 with ⟨_, h⟩ | ⟨h, _⟩
    · exact h
    · cases h
  · rcases q3 with ⟨_, h⟩ | ⟨h, _⟩
    · exact h
    · cases h
theorem rd_enc {f h : UInt8} {p l k z b : List UInt8} (H : Wf f h p l k) (hb : b = enc f h p l k ++ z) :
    rdAll b rs0 = (⟨(enc f h p l k).length, false, if (d2of f h).hasPic = true then 2 else 0, if (d2of f h).hasLevel = true then ((2 + p.length : Nat) : Int) else 0, if (d2of f h).hasKey = true then ((2 + p.length + l.length : Nat) : Int) else 0⟩, dec f h p l k) := by
  by_cases h1 : 128 ≤ f.toNat
  · unfold enc at hb ⊢
    rw [if_pos h1] at hb ⊢
    have t1 := tk1 (b := b) (pre := []) (z := h :: (p ++ l ++ k ++ z)) (x := f) (s := rs0) (by rw [hb]; simp) rfl
    have t2 := tk1 (b := b) (pre := [f]) (z := (p ++ l ++ k ++ z)) (x := h) (s := tkS b rs0 1) (by rw [hb]; simp) (by rw [t1.2.2]; rfl)
    have e2 : rd2S b rs0 = ⟨2, false, 0, 0, 0⟩ := by unfold rd2S; rw [t1.1, if_pos h1, t2.2.2, t1.2.2]; rfl
    have eN : rd2N b rs0 = hNof f h := by unfold rd2N hNof; rw [t1.1, if_pos h1, if_pos h1, t2.1]
    have t3 := st3_enc (b := b) (pre := [f, h]) (p := p) (z := l ++ k ++ z) (s := ⟨2, false, 0, 0, 0⟩) (d := d2of f h) (by rw [hb]; simp) rfl H.p rfl rfl
    have t4 := st4_enc (b := b) (pre := [f, h] ++ p) (l := l) (z := k ++ z) (s := st3 b ⟨2, false, 0, 0, 0⟩ (d2of f h)) (d := sd3 b ⟨2, false, 0, 0, 0⟩ (d2of f h)) (by rw [hb]; simp) (by rw [t3.1]) (by rw [t3.2]; exact H.l) (by rw [t3.2]; rfl)
    have t5 := st5_enc (b := b) (pre := [f, h] ++ p ++ l) (k := k) (z := z) (s := st4 b (st3 b ⟨2, false, 0, 0, 0⟩ (d2of f h)) (sd3 b ⟨2, false, 0, 0, 0⟩ (d2of f h))) (d := sd4 b (st3 b ⟨2, false, 0, 0, 0⟩ (d2of f h)) (sd3 b ⟨2, false, 0, 0, 0⟩ (d2of f h))) (by rw [hb]; simp) (by rw [t4.1]) (by rw [t4.2, t3.2]; exact H.k) (by rw [t4.2, t3.2]; rfl) (by rw [t4.2, t3.2]; rfl) (by rw [t4.2, t3.2]; rfl)
    unfold rdAll
    rw [t1.1, e2, eN]
    show (st5 b (st4 b (st3 b ⟨2, false, 0, 0, 0⟩ (d2of f h)) (sd3 b ⟨2, false, 0, 0, 0⟩ (d2of f h))) (sd4 b (st3 b ⟨2, false, 0, 0, 0⟩ (d2of f h)) (sd3 b ⟨2, false, 0, 0, 0⟩ (d2of f h))), sd5 b (st4 b (st3 b ⟨2, false, 0, 0, 0⟩ (d2of f h)) (sd3 b ⟨2, false, 0, 0, 0⟩ (d2of f h))) (sd4 b (st3 b ⟨2, false, 0, 0, 0⟩ (d2of f h)) (sd3 b ⟨2, false, 0, 0, 0⟩ (d2of f h)))) = _
    rw [t5.1, t5.2, t4.1, t4.2, t3.1, t3.2]
    refine Prod.ext ?_ rfl
    have l1 : ([f, h] ++ p).length = 2 + p.length := by simp; omega
    have l2 : ([f, h] ++ p ++ l).length = 2 + p.length + l.length := by simp; omega
    rw [l1, l2]
    rfl
  · obtain ⟨rfl, rfl, rfl⟩ := H.low h1
    unfold enc at hb ⊢
    rw [if_neg h1] at hb ⊢
    have t1 := tk1 (b := b) (pre := []) (z := z) (x := f) (s := rs0) (by rw [hb]; simp) rfl
    have e2 : rd2S b rs0 = ⟨1, false, 0, 0, 0⟩ := by unfold rd2S; rw [t1.1, if_neg h1, t1.2.2]; rfl
    have eN : rd2N b rs0 = 0 := by unfold rd2N; rw [t1.1, if_neg h1]
    have eh : d2of f h = rd2D f.toNat 0 := by unfold d2of hNof; rw [if_neg h1]
    unfold rdAll dec
    rw [t1.1, e2, eN, eh]
    rfl
theorem cons_of {l pre z : List UInt8} {n : Nat} (h : l = pre ++ z) (hn : ¬ l.length < pre.length + (n + 1)) : ∃ x z', z = x :: z' := by
  cases z with
  | nil =>
    rw [h] at hn
    simp at hn
  | cons x z' => exact ⟨x, z', rfl⟩
theorem st3_un {b pre z : List UInt8} {s : Rs} {d : V8} (hb : b = pre ++ z) (hs : s.at_ = pre.length) (h : (st3 b s d).short = false) : ∃ p z', pw d.hasPic p ∧ z = p ++ z' := by
  by_cases h1 : d.hasPic = true
  · unfold st3 picS at h
    rw [if_pos h1] at h
    cases z with
    | nil =>
      exfalso
      have hl : b.length = s.at_ := by rw [hb, hs]; simp
      split at h
      · rw [show (tkS b s 1).short = true from tkS_short (.inr (by omega))] at h
        cases h
      · rw [show (tkS b { s with p := (s.at_ : Int) } 2).short = true from tkS_short (.inr (by show b.length < s.at_ + 2; omega))] at h
        cases h
    | cons x z1 =>
      have t := tk1 (b := b) (pre := pre) (z := z1) (x := x) (s := s) hb hs
      rw [t.1] at h
      by_cases hx : x.toNat < 128
      · exact ⟨[x], z1, .inr ⟨h1, .inl ⟨x, rfl, hx⟩⟩, rfl⟩
      · rw [if_neg hx] at h
        cases z1 with
        | nil =>
          exfalso
          have hl : b.length = s.at_ + 1 := by rw [hb, hs]; simp
          rw [show (tkS b { s with p := (s.at_ : Int) } 2).short = true from tkS_short (.inr (by show b.length < s.at_ + 2; omega))] at h
          cases h
        | cons y z2 => exact ⟨[x, y], z2, .inr ⟨h1, .inr ⟨x, y, rfl, by omega⟩⟩, rfl⟩
  · exact ⟨[], z, .inl ⟨by simpa using h1, rfl⟩, rfl⟩
theorem st4_un {b pre z : List UInt8} {s : Rs} {d : V8} (hb : b = pre ++ z) (hs : s.at_ = pre.length) (h : (st4 b s d).short = false) : ∃ l z', ow d.hasLevel l ∧ z = l ++ z' := by
  by_cases h1 : d.hasLevel = true
  · unfold st4 at h
    rw [if_pos h1] at h
    cases z with
    | nil =>
      exfalso
      have hl : b.length = s.at_ := by rw [hb, hs]; simp
      have : (tkS b s 1).short = true := tkS_short (.inr (by omega))
      rw [this] at h
      cases h
    | cons x z1 => exact ⟨[x], z1, .inr ⟨h1, x, rfl⟩, rfl⟩
  · exact ⟨[], z, .inl ⟨by simpa using h1, rfl⟩, rfl⟩
theorem st5_un {b pre z : List UInt8} {s : Rs} {d : V8} (hb : b = pre ++ z) (hs : s.at_ = pre.length) (h : (st5 b s d).short = false) : ∃ k z', ow (d.hasTid || d.hasKey) k ∧ z = k ++ z' := by
  by_cases h1 : d.hasTid = true ∨ d.hasKey = true
  · unfold st5 layS at h
    rw [if_pos h1] at h
    cases z with
    | nil =>
      exfalso
      have hl : b.length = s.at_ := by rw [hb, hs]; simp
      have : (tkS b s 1).short = true := tkS_short (.inr (by omega))
      rw [this] at h
      cases h
    | cons x z1 => exact ⟨[x], z1, .inr ⟨by simpa using h1, x, rfl⟩, rfl⟩
  · exact ⟨[], z, .inl ⟨by simpa using h1, rfl⟩, rfl⟩
theorem not_short {x : Bool} (h : x = false → False) : x = true := by cases x; exact absurd rfl h; rfl
/-- What is read whole has the shape. -/
theorem rd_un {b : List UInt8} (h : (vrS b).short = false) : ∃ f g p l k z, Wf f g p l k ∧ b = enc f g p l k ++ z := by
  have hS : vrS b = st5 b (st4 b (st3 b (rd2S b rs0) (rd2D (tkN b rs0 1) (rd2N b rs0))) (sd3 b (rd2S b rs0) (rd2D (tkN b rs0 1) (rd2N b rs0)))) (sd4 b (st3 b (rd2S b rs0) (rd2D (tkN b rs0 1) (rd2N b rs0))) (sd3 b (rd2S b rs0) (rd2D (tkN b rs0 1) (rd2N b rs0)))) := rfl
  have h4 : (st4 b (st3 b (rd2S b rs0) (rd2D (tkN b rs0 1) (rd2N b rs0))) (sd3 b (rd2S b rs0) (rd2D (tkN b rs0 1) (rd2N b rs0)))).short = false := by
    cases hq : (st4 b (st3 b (rd2S b rs0) (rd2D (tkN b rs0 1) (rd2N b rs0))) (sd3 b (rd2S b rs0) (rd2D (tkN b rs0 1) (rd2N b rs0)))).short
    · rfl
    · rw [hS, st5_short hq] at h
      cases h
  have h3 : (st3 b (rd2S b rs0) (rd2D (tkN b rs0 1) (rd2N b rs0))).short = false := by
    cases hq : (st3 b (rd2S b rs0) (rd2D (tkN b rs0 1) (rd2N b rs0))).short
    · rfl
    · rw [st4_short hq] at h4
      cases h4
  have h2 : (rd2S b rs0).short = false := by
    cases hq : (rd2S b rs0).short
    · rfl
    · rw [st3_short hq] at h3
      cases h3
  cases b with
  | nil => exact absurd h2 (by decide)
  | cons f z1 =>
    have t1 := tk1 (b := f :: z1) (pre := []) (z := z1) (x := f) (s := rs0) rfl rfl
    by_cases hf : 128 ≤ f.toNat
    · unfold rd2S at h2
      rw [t1.1, if_pos hf, t1.2.2] at h2
      cases z1 with
      | nil => exact absurd h2 (by rw [tkS_short (.inr (by show (1:Nat) < 0 + 1 + 1; omega))]; decide)
      | cons g z2 =>
        have t2 := tk1 (b := f :: g :: z2) (pre := [f]) (z := z2) (x := g) (s := tkS (f :: g :: z2) rs0 1) rfl (by rw [t1.2.2]; rfl)
        have e2 : rd2S (f :: g :: z2) rs0 = ⟨2, false, 0, 0, 0⟩ := by unfold rd2S; rw [t1.1, if_pos hf, t2.2.2, t1.2.2]; rfl
        have eN : rd2D (tkN (f :: g :: z2) rs0 1) (rd2N (f :: g :: z2) rs0) = d2of f g := by unfold rd2N d2of hNof; rw [t1.1, if_pos hf, if_pos hf, t2.1]
        rw [e2, eN] at h3 h4
        rw [e2, eN] at hS
        rw [hS] at h
        obtain ⟨p, z3, hp, rfl⟩ := st3_un (b := f :: g :: z2) (pre := [f, g]) (z := z2) rfl rfl h3
        have t3 := st3_enc (b := f :: g :: (p ++ z3)) (pre := [f, g]) (p := p) (z := z3) (s := ⟨2, false, 0, 0, 0⟩) (d := d2of f g) rfl rfl hp rfl rfl
        rw [t3.1, t3.2] at h4 h
        obtain ⟨l, z4, hl, rfl⟩ := st4_un (b := f :: g :: (p ++ z3)) (pre := [f, g] ++ p) (z := z3) (by simp) rfl h4
        have t4 := st4_enc (b := f :: g :: (p ++ (l ++ z4))) (pre := [f, g] ++ p) (l := l) (z := z4) (s := ⟨([f, g] ++ p).length, false, if (d2of f g).hasPic = true then (([f, g] : List UInt8).length : Int) else 0, 0, 0⟩) (d := { d2of f g with wide := decide (p.length = 2), pic := ((val p % 32768 : Nat) : Int) }) (by simp) rfl hl rfl
        rw [t4.1, t4.2] at h
        obtain ⟨k, z5, hk, rfl⟩ := st5_un (b := f :: g :: (p ++ (l ++ z4))) (pre := [f, g] ++ p ++ l) (z := z4) (by simp) (by simp) h
        refine ⟨f, g, p, l, k, z5, ⟨hp, hl, hk⟩, ?_⟩
        unfold enc
        rw [if_pos hf]
        simp
    · refine ⟨f, 0, [], [], [], z1, ⟨.inl ⟨(d2of_low hf).1, rfl⟩, .inl ⟨(d2of_low hf).2.1, rfl⟩, .inl ⟨?_, rfl⟩⟩, ?_⟩
      · rw [(d2of_low hf).2.2.1, (d2of_low hf).2.2.2]; rfl
      · unfold enc
        rw [if_neg hf]
        rfl
end Go.Proofs.Ytcdacnhggpfnaaa

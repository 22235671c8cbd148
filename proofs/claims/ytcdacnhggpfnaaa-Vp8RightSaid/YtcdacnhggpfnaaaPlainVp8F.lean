/- Layer 23 in plain Lean: what is found, part by part. No program in sight. -/
import Derived.Test.YtcdacnhggpfnaaaPlainVp8S
namespace Go.Proofs.Ytcdacnhggpfnaaa
def fdP (b : List UInt8) : Int := if vrE b = 0 then (vrS b).p else 0
def fdL (b : List UInt8) : Int := if vrE b = 0 then (vrS b).l else 0
def fdK (b : List UInt8) : Int := if vrE b = 0 then (if (vrD b).hasTid = true ∨ (vrD b).hasKey = true then (vrN b : Int) - 1 else 0) else 0
theorem pw_det {c : Bool} {p p' a a' : List UInt8} (h : pw c p) (h' : pw c p') (e : p ++ a = p' ++ a') : p = p' ∧ a = a' := by
  have hl : p.length = p'.length := by
    rcases h with ⟨h1, rfl⟩ | ⟨h1, ⟨x, rfl, hx⟩ | ⟨x, y, rfl, hx⟩⟩
    · rcases h' with ⟨_, rfl⟩ | ⟨h2, _⟩
      · rfl
      · rw [h1] at h2; cases h2
    · rcases h' with ⟨h2, _⟩ | ⟨_, ⟨x', rfl, hx'⟩ | ⟨x', y', rfl, hx'⟩⟩
      · rw [h1] at h2; cases h2
      · rfl
      · simp at e; have := congrArg UInt8.toNat e.1; omega
    · rcases h' with ⟨h2, _⟩ | ⟨_, ⟨x', rfl, hx'⟩ | ⟨x', y', rfl, hx'⟩⟩
      · rw [h1] at h2; cases h2
      · simp at e; have := congrArg UInt8.toNat e.1; omega
      · rfl
  exact List.append_inj e hl
theorem ow_det {c : Bool} {p p' a a' : List UInt8} (h : ow c p) (h' : ow c p') (e : p ++ a = p' ++ a') : p = p' ∧ a = a' := by
  have hl : p.length = p'.length := by
    rcases h with ⟨h1, rfl⟩ | ⟨h1, x, rfl⟩
    · rcases h' with ⟨_, rfl⟩ | ⟨h2, _⟩
      · rfl
      · rw [h1] at h2; cases h2
    · rcases h' with ⟨h2, _⟩ | ⟨_, x', rfl⟩
      · rw [h1] at h2; cases h2
      · rfl
  exact List.append_inj e hl
theorem vrE_short {b : List UInt8} (h : (vrS b).short = true) : vrE b = 2 := by unfold vrE rdE; rw [if_pos h]
theorem un_hi {f g : UInt8} {t : List UInt8} (hf : 128 ≤ f.toNat) (h : (vrS (f :: g :: t)).short = false) : ∃ p l k z, Wf f g p l k ∧ t = p ++ (l ++ (k ++ z)) := by
  obtain ⟨f', g', p, l, k, z, H, hb⟩ := rd_un h
  have hf' : f' = f := by
    unfold enc at hb
    split at hb
    · simp at hb; exact hb.1.symm
    · simp at hb; exact hb.1.symm
  subst hf'
  unfold enc at hb
  rw [if_pos hf] at hb
  simp at hb
  obtain ⟨rfl, hb⟩ := hb
  exact ⟨p, l, k, z, H, by rw [hb]⟩
theorem sh_nil : vrE [] = 2 := by decide
theorem sh_one {f : UInt8} (hf : 128 ≤ f.toNat) : vrE [f] = 2 := by
  apply vrE_short
  cases hq : (vrS [f]).short
  · obtain ⟨f', g', p, l, k, z, H, hb⟩ := rd_un hq
    unfold enc at hb
    split at hb
    · simp at hb
    · rename_i h
      simp at hb
      rw [← hb.1] at h
      exact absurd hf h
  · rfl
theorem sh_pic {f g : UInt8} {t : List UInt8} (hf : 128 ≤ f.toNat) (hp : (d2of f g).hasPic = true) (ht : t = [] ∨ ∃ x, t = [x] ∧ 128 ≤ x.toNat) : vrE (f :: g :: t) = 2 := by
  apply vrE_short
  cases hq : (vrS (f :: g :: t)).short
  · obtain ⟨p, l, k, z, H, hb⟩ := un_hi hf hq
    have q := H.p
    rw [hp] at q
    rcases q with ⟨h1, _⟩ | ⟨_, ⟨x, rfl, hx⟩ | ⟨x, y, rfl, hx⟩⟩
    · cases h1
    · rcases ht with rfl | ⟨x', rfl, hx'⟩
      · simp at hb
      · simp at hb; have := congrArg UInt8.toNat hb.1; omega
    · rcases ht with rfl | ⟨x', rfl, hx'⟩
      · simp at hb
      · simp at hb
  · rfl
theorem sh_lev {f g : UInt8} {p : List UInt8} (hf : 128 ≤ f.toNat) (hp : pw (d2of f g).hasPic p) (hl : (d2of f g).hasLevel = true) : vrE (f :: g :: p) = 2 := by
  apply vrE_short
  cases hq : (vrS (f :: g :: p)).short
  · obtain ⟨p', l, k, z, H, hb⟩ := un_hi hf hq
    obtain ⟨rfl, h2⟩ := pw_det hp H.p (a := []) (by rw [List.append_nil]; exact hb)
    have q := H.l
    rw [hl] at q
    rcases q with ⟨h1, _⟩ | ⟨_, x, rfl⟩
    · cases h1
    · simp at h2
  · rfl
theorem sh_key {f g : UInt8} {p l : List UInt8} (hf : 128 ≤ f.toNat) (hp : pw (d2of f g).hasPic p) (hl : ow (d2of f g).hasLevel l) (hk : ((d2of f g).hasTid || (d2of f g).hasKey) = true) : vrE (f :: g :: (p ++ l)) = 2 := by
  apply vrE_short
  cases hq : (vrS (f :: g :: (p ++ l))).short
  · obtain ⟨p', l', k, z, H, hb⟩ := un_hi hf hq
    obtain ⟨rfl, h2⟩ := pw_det hp H.p hb
    obtain ⟨rfl, h3⟩ := ow_det hl H.l (a := []) (by rw [List.append_nil]; exact h2)
    have q := H.k
    rw [hk] at q
    rcases q with ⟨h1, _⟩ | ⟨_, x, rfl⟩
    · cases h1
    · simp at h3
  · rfl
/-- What is found in bytes of the shape. -/
theorem fd_enc {f g : UInt8} {p l k z b : List UInt8} (H : Wf f g p l k) (hb : b = enc f g p l k ++ z) (h0 : vrE b = 0) : vrD b = dec f g p l k ∧ vrN b = (enc f g p l k).length ∧ fdP b = (if (d2of f g).hasPic = true then 2 else 0) ∧ fdL b = (if (d2of f g).hasLevel = true then ((2 + p.length : Nat) : Int) else 0) ∧ fdK b = (if (d2of f g).hasTid = true ∨ (d2of f g).hasKey = true then ((2 + p.length + l.length : Nat) : Int) else 0) := by
  obtain ⟨e1, e2, e3⟩ := vr_enc H hb h0
  unfold fdP fdL fdK
  rw [if_pos h0, if_pos h0, if_pos h0, e3]
  refine ⟨e1, e2, rfl, rfl, ?_⟩
  rw [e1, e2]
  show (if (d2of f g).hasTid = true ∨ (d2of f g).hasKey = true then _ else _) = _
  by_cases hc : (d2of f g).hasTid = true ∨ (d2of f g).hasKey = true
  · have hf := hi_of f g (.inr (.inr hc))
    rw [if_pos hc, if_pos hc]
    unfold enc
    rw [if_pos hf]
    rcases H.k with ⟨h1, _⟩ | ⟨_, x, rfl⟩
    · rw [Bool.or_eq_false_iff] at h1; rw [h1.1, h1.2] at hc; simp at hc
    · simp only [List.length_append, List.length_cons, List.length_nil]; omega
  · rw [if_neg hc, if_neg hc]
theorem fd_fail {b : List UInt8} (h : vrE b ≠ 0) : vrD b = v8Zero ∧ vrN b = 0 ∧ fdP b = 0 ∧ fdL b = 0 ∧ fdK b = 0 := by
  unfold fdP fdL fdK
  rw [if_neg h, if_neg h, if_neg h]
  exact ⟨(vr_fail h).1, (vr_fail h).2, rfl, rfl, rfl⟩
end Go.Proofs.Ytcdacnhggpfnaaa

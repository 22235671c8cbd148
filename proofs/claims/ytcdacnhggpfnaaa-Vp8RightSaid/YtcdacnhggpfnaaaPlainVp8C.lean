/- Layer 23 in plain Lean: descriptors and their bytes, there and back. No program in sight. -/
import Derived.Test.YtcdacnhggpfnaaaPlainVp8B
namespace Go.Proofs.Ytcdacnhggpfnaaa
theorem d2of_enc {d : V8} (h : v8Right d = true) : d2of (UInt8.ofNat (v8First d)) (UInt8.ofNat (v8Has d)) = ⟨d.alone, d.start, d.part, d.hasPic, false, 0, d.hasLevel, 0, d.hasTid, d.hasKey, 0, false, 0⟩ ∧ (128 ≤ (UInt8.ofNat (v8First d)).toNat ↔ v8Has d ≠ 0) := by
  obtain ⟨r1, -⟩ := v8Right_iff h
  have hH := v8Has_lt d
  have q1 := v8b_le (decide (0 < v8Has d)) 128
  have q2 := v8b_le d.alone 32
  have q3 := v8b_le d.start 16
  have hF : v8First d < 256 := by unfold v8First; omega
  have e1 : (UInt8.ofNat (v8First d)).toNat = v8First d := by rw [UInt8.toNat_ofNat']; omega
  have e2 : (UInt8.ofNat (v8Has d)).toNat = v8Has d := by rw [UInt8.toNat_ofNat']; omega
  obtain ⟨p, hp⟩ := Int.eq_ofNat_of_zero_le r1.1
  have hp7 : p ≤ 7 := by omega
  have hF2 : v8First d = v8b (decide (0 < v8Has d)) 128 + v8b d.alone 32 + v8b d.start 16 + p := by unfold v8First; rw [hp]; rfl
  have h128 : (128 ≤ v8First d ↔ v8Has d ≠ 0) := by
    rw [hF2]
    have q4 := v8b_le d.alone 32
    have q5 := v8b_le d.start 16
    by_cases h0 : v8Has d = 0
    · rw [h0]; simp [v8b]
      split <;> split <;> omega
    · have : v8b (decide (0 < v8Has d)) 128 = 128 := by unfold v8b; rw [if_pos (by simp; omega)]
      omega
  have hN : hNof (UInt8.ofNat (v8First d)) (UInt8.ofNat (v8Has d)) = v8Has d := by
    unfold hNof
    rw [e1, e2]
    split
    · rfl
    · rename_i h0
      exact ((Classical.not_not.1 fun z => h0 (h128.2 z))).symm
  refine ⟨?_, by rw [e1]; exact h128⟩
  unfold d2of
  rw [hN, e1]
  unfold rd2D
  have a1 : decide (v8First d / 32 % 2 = 1) = d.alone := by
    rw [hF2]
    rcases hd : d.alone with _ | _ <;> rcases hs : d.start with _ | _ <;> rcases hh : decide (0 < v8Has d) with _ | _ <;> simp [v8b] <;> omega
  have a2 : decide (v8First d / 16 % 2 = 1) = d.start := by
    rw [hF2]
    rcases hd : d.alone with _ | _ <;> rcases hs : d.start with _ | _ <;> rcases hh : decide (0 < v8Has d) with _ | _ <;> simp [v8b] <;> omega
  have a3 : ((v8First d % 8 : Nat) : Int) = d.part := by
    rw [hp, hF2]
    rcases hd : d.alone with _ | _ <;> rcases hs : d.start with _ | _ <;> rcases hh : decide (0 < v8Has d) with _ | _ <;> simp [v8b] <;> omega
  rw [a1, a2, a3]
  obtain ⟨da, ds, dp, dhp, dwi, dpc, dhl, dlv, dht, dhk, dti, dsy, dky⟩ := d
  unfold v8Has
  dsimp only
  cases dhp <;> cases dhl <;> cases dht <;> cases dhk <;> simp [v8b]
theorem be2 (v : Nat) : be 2 v = [UInt8.ofNat (v / 256), UInt8.ofNat v] := by simp [be]
theorem val1 (x : UInt8) : val [x] = x.toNat := by simp [val]
theorem val2 (x y : UInt8) : val [x, y] = 256 * x.toNat + y.toNat := by simp [val]
theorem enc_of {d : V8} (h : v8Right d = true) : Wf (UInt8.ofNat (v8First d)) (UInt8.ofNat (v8Has d)) (v8Pic d) (v8Lev d) (v8Key d) ∧ v8Bytes d = enc (UInt8.ofNat (v8First d)) (UInt8.ofNat (v8Has d)) (v8Pic d) (v8Lev d) (v8Key d) ∧ dec (UInt8.ofNat (v8First d)) (UInt8.ofNat (v8Has d)) (v8Pic d) (v8Lev d) (v8Key d) = d := by
  obtain ⟨h2, h128⟩ := d2of_enc h
  obtain ⟨r1, r2, r3, r4, r5, r6⟩ := v8Right_iff h
  refine ⟨?_, ?_, ?_⟩
  · constructor <;> rw [h2] <;> dsimp only
    · unfold pw v8Pic
      unfold v8W at r2
      cases hp : d.hasPic
      · obtain ⟨_, e, _⟩ := r2.2.2 hp
        simp [e]
      · cases hw : d.wide
        · simp [hw] at r2 ⊢
          omega
        · rw [hw, if_pos rfl] at r2
          rw [if_pos rfl]
          refine .inr ⟨rfl, .inr ⟨_, _, be2 _, ?_⟩⟩
          rw [UInt8.toNat_ofNat']
          omega
    · unfold ow v8Lev
      cases hl : d.hasLevel <;> simp
    · unfold ow v8Key
      cases ht : d.hasTid <;> cases hk : d.hasKey <;> simp
  · unfold v8Bytes enc
    by_cases h0 : v8Has d = 0
    · rw [if_pos h0, if_neg fun z => h128.1 z h0]
    · rw [if_neg h0, if_pos (h128.2 h0)]
  · unfold dec
    rw [h2]
    dsimp only
    have w1 : decide ((v8Pic d).length = 2) = d.wide ∧ ((val (v8Pic d) % 32768 : Nat) : Int) = d.pic := by
      unfold v8Pic
      unfold v8W at r2
      cases hw : d.wide
      · rw [hw] at r2
        simp only [Bool.false_eq_true, if_false] at r2 ⊢
        cases hp : d.hasPic
        · obtain ⟨e, _, _⟩ := r2.2.2 hp
          simp [e, val]
        · simp only [if_true, val1]
          refine ⟨rfl, ?_⟩
          rw [UInt8.toNat_ofNat']
          omega
      · rw [hw] at r2
        simp only [if_true] at r2 ⊢
        refine ⟨by rw [be_length]; rfl, ?_⟩
        rw [val_be]
        omega
    have w2 : (val (v8Lev d) : Int) = d.level := by
      unfold v8Lev
      cases hl : d.hasLevel
      · simp [val, r3.2.2 hl]
      · simp only [if_true, val1]
        rw [UInt8.toNat_ofNat']
        omega
    have w3 : decide (val (v8Key d) / 32 % 2 = 1) = d.sync ∧ (if d.hasTid = true then ((val (v8Key d) / 64 : Nat) : Int) else 0) = d.tid ∧ (if d.hasKey = true then ((val (v8Key d) % 32 : Nat) : Int) else 0) = d.key := by
      unfold v8Key
      by_cases hc : d.hasTid = true ∨ d.hasKey = true
      · rw [if_pos hc, val1]
        have e : (UInt8.ofNat (64 * d.tid.toNat + v8b d.sync 32 + d.key.toNat)).toNat = 64 * d.tid.toNat + v8b d.sync 32 + d.key.toNat := by
          have := v8b_le d.sync 32
          rw [UInt8.toNat_ofNat']; omega
        rw [e]
        have hs : v8b d.sync 32 = if d.sync = true then 32 else 0 := rfl
        rw [hs]
        refine ⟨?_, ?_, ?_⟩
        · cases d.sync <;> simp <;> omega
        · cases ht : d.hasTid
          · simp [r4.2.2 ht]
          · cases d.sync <;> simp <;> omega
        · cases hk : d.hasKey
          · simp [r5.2.2 hk]
          · cases d.sync <;> simp <;> omega
      · rw [if_neg hc]
        simp only [not_or, Bool.not_eq_true] at hc
        rw [hc.1, hc.2, r6 hc.1 hc.2, r4.2.2 hc.1, r5.2.2 hc.2]
        simp [val]
    rw [w1.1, w1.2, w2, w3.1, w3.2.1, w3.2.2]
theorem rdE_dec {f g : UInt8} {p l k z b : List UInt8} (H : Wf f g p l k) (hb : b = enc f g p l k ++ z) : vrE b = (if (d2of f g).hasLevel = true ∧ (d2of f g).hasPic = false then 6 else 0) ∧ (vrS b).short = false := by
  have e := rd_enc H hb
  unfold vrE vrS vrD0
  rw [e]
  exact ⟨rfl, rfl⟩
theorem vr_enc {f g : UInt8} {p l k z b : List UInt8} (H : Wf f g p l k) (hb : b = enc f g p l k ++ z) (h0 : vrE b = 0) : vrD b = dec f g p l k ∧ vrN b = (enc f g p l k).length ∧ vrS b = ⟨(enc f g p l k).length, false, if (d2of f g).hasPic = true then 2 else 0, if (d2of f g).hasLevel = true then ((2 + p.length : Nat) : Int) else 0, if (d2of f g).hasKey = true then ((2 + p.length + l.length : Nat) : Int) else 0⟩ := by
  have e := rd_enc H hb
  have h1 : vrN b = (vrS b).at_ := by unfold vrN; rw [if_pos h0]
  have h2 : vrD b = vrD0 b := by unfold vrD rdV; rw [if_pos (show rdE (vrS b) (vrD0 b) = 0 from h0)]
  rw [h1, h2]
  unfold vrS vrD0
  rw [e]
  exact ⟨rfl, rfl, rfl⟩
theorem vr_fail {b : List UInt8} (h : vrE b ≠ 0) : vrD b = v8Zero ∧ vrN b = 0 := by
  constructor
  · unfold vrD rdV; rw [if_neg (show ¬ rdE (vrS b) (vrD0 b) = 0 from h)]
  · unfold vrN; rw [if_neg h]
theorem vr_un {b : List UInt8} (h : vrE b = 0) : ∃ f g p l k z, Wf f g p l k ∧ b = enc f g p l k ++ z ∧ ¬ ((d2of f g).hasLevel = true ∧ (d2of f g).hasPic = false) := by
  have hs : (vrS b).short = false := by
    cases hq : (vrS b).short
    · rfl
    · unfold vrE rdE at h
      rw [hq, if_pos rfl] at h
      cases h
  obtain ⟨f, g, p, l, k, z, H, hb⟩ := rd_un hs
  refine ⟨f, g, p, l, k, z, H, hb, fun hc => ?_⟩
  have := (rdE_dec H hb).1
  rw [if_pos hc, h] at this
  cases this
theorem v8_back {d : V8} (h : v8Right d = true) (z : List UInt8) : vrE (v8Bytes d ++ z) = 0 ∧ vrD (v8Bytes d ++ z) = d ∧ vrN (v8Bytes d ++ z) = (v8Bytes d).length := by
  obtain ⟨H, hb, hd⟩ := enc_of h
  obtain ⟨r1, r2, r3, r4, r5, r6⟩ := v8Right_iff h
  have hE : vrE (v8Bytes d ++ z) = 0 := by
    rw [(rdE_dec (z := z) H (by rw [hb])).1, (d2of_enc h).1]
    dsimp only
    rw [if_neg]
    rintro ⟨h1, h2⟩
    have := (r2.2.2 h2).2.2
    rw [h1] at this
    cases this
  obtain ⟨e1, e2, -⟩ := vr_enc (z := z) H (by rw [hb]) hE
  exact ⟨hE, by rw [e1, hd], by rw [e2, hb]⟩
theorem enc_pos (f g : UInt8) (p l k : List UInt8) : 1 ≤ (enc f g p l k).length := by
  unfold enc; split <;> simp
theorem v8_len (d : V8) : 1 ≤ (v8Bytes d).length := by
  unfold v8Bytes; split <;> simp
theorem v8_cut {d : V8} (h : v8Right d = true) (j : Nat) (hj : j < (v8Bytes d).length) : vrE ((v8Bytes d).take j) = 2 ∧ vrD ((v8Bytes d).take j) = v8Zero ∧ vrN ((v8Bytes d).take j) = 0 := by
  obtain ⟨H, hb, hd⟩ := enc_of h
  have hs : (vrS ((v8Bytes d).take j)).short = true := by
    cases hq : (vrS ((v8Bytes d).take j)).short
    · obtain ⟨f, g, p, l, k, z, H2, hb2⟩ := rd_un hq
      have hcat : v8Bytes d = enc f g p l k ++ (z ++ (v8Bytes d).drop j) := by
        rw [← List.append_assoc, ← hb2, List.take_append_drop]
      have e1 := rd_enc (z := []) H (b := v8Bytes d) (by rw [hb]; simp)
      have e2 := rd_enc H2 hcat
      rw [e1] at e2
      have e3 := congrArg (fun x => x.1.at_) e2
      dsimp only at e3
      rw [← hb] at e3
      have e4 := congrArg List.length hb2
      rw [List.length_take, List.length_append] at e4
      omega
    · rfl
  have hE : vrE ((v8Bytes d).take j) = 2 := by unfold vrE rdE; rw [if_pos hs]
  obtain ⟨q1, q2⟩ := vr_fail (b := (v8Bytes d).take j) (by rw [hE]; decide)
  exact ⟨hE, q1, q2⟩
theorem v8In_of {t : Bool} {n m : Int} (h : n = 0 ∨ (t = true ∧ 0 < n ∧ n ≤ m)) : v8In t n m = true := decide_eq_true h
theorem dec_right {f g : UInt8} {p l k : List UInt8} (H : Wf f g p l k) (h : ¬ ((d2of f g).hasLevel = true ∧ (d2of f g).hasPic = false)) : v8Right (dec f g p l k) = true := by
  obtain ⟨q1, q2, q3⟩ := H
  unfold dec v8Right
  rcases hd : d2of f g with ⟨da, ds, dp, dhp, dwi, dpc, dhl, dlv, dht, dhk, dti, dsy, dky⟩
  rw [hd] at q1 q2 q3 h
  have hpt : 0 ≤ dp ∧ dp ≤ 7 := by
    have := congrArg V8.part hd
    unfold d2of rd2D at this
    dsimp only at this
    omega
  dsimp only at *
  simp only [Bool.and_eq_true]
  refine ⟨⟨⟨⟨⟨⟨?_, ?_⟩, ?_⟩, ?_⟩, ?_⟩, ?_⟩, ?_⟩
  · exact v8In_of (by simp only [true_and]; omega)
  · refine v8In_of ?_
    unfold v8W
    rcases q1 with ⟨rfl, rfl⟩ | ⟨rfl, ⟨x, rfl, hx⟩ | ⟨x, y, rfl, hx⟩⟩
    · exact .inl (by simp [val])
    · rw [val1, if_neg (by simp)]; simp only [true_and]; omega
    · rw [val2, if_pos (by simp)]; simp only [true_and]; omega
  · refine v8In_of ?_
    rcases q2 with ⟨rfl, rfl⟩ | ⟨rfl, x, rfl⟩
    · exact .inl (by simp [val])
    · rw [val1]; have := x.toNat_lt; simp only [true_and]; omega
  · refine v8In_of ?_
    rcases q3 with ⟨h3, rfl⟩ | ⟨h3, x, rfl⟩
    · exact .inl (by simp [val])
    · rw [val1]; have := x.toNat_lt; cases dht <;> simp; omega
  · refine v8In_of ?_
    rcases q3 with ⟨h3, rfl⟩ | ⟨h3, x, rfl⟩
    · exact .inl (by simp [val])
    · rw [val1]; have := x.toNat_lt; cases dhk <;> simp; omega
  · rcases q1 with ⟨rfl, rfl⟩ | ⟨rfl, _⟩
    · simp at h ⊢; exact h
    · simp
  · rcases q3 with ⟨h3, rfl⟩ | ⟨h3, x, rfl⟩
    · simp [val]
    · cases dht <;> cases dhk <;> simp_all
theorem v8_read {b : List UInt8} (h : vrE b = 0) : v8Right (vrD b) = true ∧ 1 ≤ vrN b ∧ vrN b ≤ b.length := by
  obtain ⟨f, g, p, l, k, z, H, hb, hc⟩ := vr_un h
  obtain ⟨e1, e2, -⟩ := vr_enc H hb h
  rw [e1, e2]
  refine ⟨dec_right H hc, enc_pos _ _ _ _ _, ?_⟩
  rw [hb]; simp
theorem v8_inj {d k : V8} (h : v8Right d = true) (h2 : v8Right k = true) : v8Bytes d = v8Bytes k ↔ d = k := by
  refine ⟨fun e => ?_, fun e => by rw [e]⟩
  have a := (v8_back h []).2.1
  have b := (v8_back h2 []).2.1
  rw [← a, e, b]
def vrC (b : List UInt8) : Bool := decide (vrE b = 0 ∧ v8Bytes (vrD b) = b.take (vrN b))
theorem vrC_back {d : V8} (h : v8Right d = true) : vrC (v8Bytes d) = true := by
  obtain ⟨a, b, c⟩ := v8_back h []
  rw [List.append_nil] at a b c
  refine decide_eq_true ⟨a, ?_⟩
  rw [b, c, List.take_length]
end Go.Proofs.Ytcdacnhggpfnaaa

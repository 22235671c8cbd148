/- Layer 23 in plain Lean: descriptors. No program in sight. -/
import Derived.Test.YtcdacnhggpfnaaaPlainOct2
namespace Go.Proofs.Ytcdacnhggpfnaaa
structure V8 where
  alone : Bool
  start : Bool
  part : Int
  hasPic : Bool
  wide : Bool
  pic : Int
  hasLevel : Bool
  level : Int
  hasTid : Bool
  hasKey : Bool
  tid : Int
  sync : Bool
  key : Int
def v8Zero : V8 := ⟨false, false, 0, false, false, 0, false, 0, false, false, 0, false, 0⟩
def v8In (there : Bool) (n most : Int) : Bool := decide (n = 0 ∨ (there = true ∧ 0 < n ∧ n ≤ most))
def v8W (d : V8) : Int := if d.wide = true then 32767 else 127
def v8Right (d : V8) : Bool := v8In true d.part 7 && v8In d.hasPic d.pic (v8W d) && v8In d.hasLevel d.level 255 && v8In d.hasTid d.tid 3 && v8In d.hasKey d.key 31 && (d.hasPic || (!d.wide && !d.hasLevel)) && (d.hasTid || (d.hasKey || !d.sync))
def v8b (b : Bool) (n : Nat) : Nat := if b = true then n else 0
def v8Has (d : V8) : Nat := v8b d.hasPic 128 + v8b d.hasLevel 64 + v8b d.hasTid 32 + v8b d.hasKey 16
def v8First (d : V8) : Nat := v8b (decide (0 < v8Has d)) 128 + v8b d.alone 32 + v8b d.start 16 + d.part.toNat
def v8Pic (d : V8) : List UInt8 := if d.wide = true then be 2 (32768 + d.pic.toNat) else if d.hasPic = true then [UInt8.ofNat d.pic.toNat] else []
def v8Lev (d : V8) : List UInt8 := if d.hasLevel = true then [UInt8.ofNat d.level.toNat] else []
def v8Key (d : V8) : List UInt8 := if d.hasTid = true ∨ d.hasKey = true then [UInt8.ofNat (64 * d.tid.toNat + v8b d.sync 32 + d.key.toNat)] else []
def v8Bytes (d : V8) : List UInt8 := if v8Has d = 0 then [UInt8.ofNat (v8First d)] else [UInt8.ofNat (v8First d), UInt8.ofNat (v8Has d)] ++ v8Pic d ++ v8Lev d ++ v8Key d
theorem v8In_iff {t : Bool} {n m : Int} (h : v8In t n m = true) : n = 0 ∨ (t = true ∧ 0 < n ∧ n ≤ m) := of_decide_eq_true h
theorem v8b_le (b : Bool) (n : Nat) : v8b b n ≤ n := by unfold v8b; split <;> omega
theorem v8Right_iff {d : V8} (h : v8Right d = true) : (0 ≤ d.part ∧ d.part ≤ 7) ∧ (0 ≤ d.pic ∧ d.pic ≤ v8W d ∧ (d.hasPic = false → d.pic = 0 ∧ d.wide = false ∧ d.hasLevel = false)) ∧ (0 ≤ d.level ∧ d.level ≤ 255 ∧ (d.hasLevel = false → d.level = 0)) ∧ (0 ≤ d.tid ∧ d.tid ≤ 3 ∧ (d.hasTid = false → d.tid = 0)) ∧ (0 ≤ d.key ∧ d.key ≤ 31 ∧ (d.hasKey = false → d.key = 0)) ∧ (d.hasTid = false → d.hasKey = false → d.sync = false) := by
  obtain ⟨a, s, p, hp, wi, pc, hl, lv, ht, hk, ti, sy, ky⟩ := d
  unfold v8Right at h
  simp only [Bool.and_eq_true] at h
  obtain ⟨⟨⟨⟨⟨⟨h1, h2⟩, h3⟩, h4⟩, h5⟩, h6⟩, h7⟩ := h
  have q1 := v8In_iff h1
  have q2 := v8In_iff h2
  have q3 := v8In_iff h3
  have q4 := v8In_iff h4
  have q5 := v8In_iff h5
  dsimp only at *
  have hw : 0 ≤ v8W ⟨a, s, p, hp, wi, pc, hl, lv, ht, hk, ti, sy, ky⟩ := by unfold v8W; split <;> omega
  refine ⟨by omega, ⟨by omega, by omega, ?_⟩, ⟨by omega, by omega, ?_⟩, ⟨by omega, by omega, ?_⟩, ⟨by omega, by omega, ?_⟩, ?_⟩
  · rintro rfl
    simp at q2 h6
    exact ⟨q2, h6.1, h6.2⟩
  · rintro rfl; simpa using q3
  · rintro rfl; simpa using q4
  · rintro rfl; simpa using q5
  · rintro rfl rfl; simpa using h7
theorem v8Has_lt (d : V8) : v8Has d < 256 := by
  have := v8b_le d.hasPic 128
  have := v8b_le d.hasLevel 64
  have := v8b_le d.hasTid 32
  have := v8b_le d.hasKey 16
  unfold v8Has; omega
end Go.Proofs.Ytcdacnhggpfnaaa

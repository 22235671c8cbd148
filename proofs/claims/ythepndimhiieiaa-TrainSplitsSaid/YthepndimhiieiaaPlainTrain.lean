/- Layers 3 and 11 in plain Lean: trailers, cars. No program in sight. -/
import Derived.Test.YthepndimhiieiaaPlainComB
namespace Go.Proofs.Ythepndimhiieiaa
/-- The number at the end; the error of a trailer; how many bytes it has. -/
def tlN (r : List UInt8) : Nat := (r.getD (r.length - 1) 0).toNat
def tlE (r : List UInt8) : Int := if r.length = 0 ∨ tlN r = 0 ∨ r.length < tlN r then 5 else 0
def tlV (r : List UInt8) : Nat := if tlE r = 0 then tlN r else 0
def trE (p : Bool) (r : List UInt8) : Int := if p = true ∧ (tlE r ≠ 0 ∨ tlN r % 4 ≠ 0) then 5 else 0
def trN (p : Bool) (r : List UInt8) : Nat := if p = true ∧ trE p r = 0 then tlN r else 0
/-- A car opened. -/
def oE (b : List UInt8) : Int := if cE b ≠ 0 then cE b else if cS b < b.length then 4 else trE (cP b) (b.drop 4)
def oN (b : List UInt8) : Nat := if oE b = 0 then trN (cP b) (b.drop 4) else 0
def oB (b : List UInt8) : List UInt8 := if oE b = 0 then (b.drop 4).take (b.length - oN b - 4) else []
def oP (b : List UInt8) : Bool := if oE b = 0 then cP b else false
def oC (b : List UInt8) : Nat := if oE b = 0 then cC b else 0
def oT (b : List UInt8) : Nat := if oE b = 0 then cT b else 0
def oS (b : List UInt8) : Nat := if oE b = 0 then cS b else 0
/-- A trailer; a car closed. -/
def tlBytes (t : Nat) : List UInt8 := if t = 0 then [] else List.replicate (t - 1) 0 ++ [UInt8.ofNat t]
def clOK (k c : Int) (n : Nat) (t : Int) : Bool := decide (0 ≤ t ∧ t ≤ 252 ∧ t % 4 = 0 ∧ n % 4 = 0) && cRight c k (4 + n + t)
def clBytes (k c : Int) (body : List UInt8) (t : Nat) : List UInt8 := cBytes (decide (0 < t)) c k (4 + body.length + t) ++ (body ++ tlBytes t)
theorem tlBytes_len (t : Nat) : (tlBytes t).length = t := by
  unfold tlBytes
  split
  · rename_i h; rw [h]; rfl
  · simp; omega
theorem tlN_lt (r : List UInt8) : tlN r < 256 := UInt8.toNat_lt _
theorem tlE_or (r : List UInt8) : tlE r = 0 ∨ tlE r = 5 := by unfold tlE; split <;> simp
theorem tl_ok {r : List UInt8} (h : tlE r = 0) : 0 < r.length ∧ 0 < tlN r ∧ tlN r ≤ r.length := by
  unfold tlE at h
  split at h
  · exact absurd h (by decide)
  · omega
theorem trE_or (p : Bool) (r : List UInt8) : trE p r = 0 ∨ trE p r = 5 := by unfold trE; split <;> simp
theorem trN_ok {p : Bool} {r : List UInt8} (h : trE p r = 0) : trN p r ≤ r.length ∧ trN p r % 4 = 0 ∧ (p = true → 0 < trN p r ∧ trN p r = tlN r) ∧ (p = false → trN p r = 0) ∧ trN p r < 256 := by
  cases p
  · have : trN false r = 0 := by unfold trN; simp
    rw [this]
    exact ⟨by omega, by omega, (fun e => by cases e), fun _ => rfl, by omega⟩
  · have e : trN true r = tlN r := by unfold trN; rw [if_pos ⟨rfl, h⟩]
    have h2 := h
    unfold trE at h2
    split at h2
    · exact absurd h2 (by decide)
    · rename_i h3
      have h4 : tlE r = 0 := by
        rcases tlE_or r with q | q
        · exact q
        · exact absurd ⟨rfl, Or.inl (by rw [q]; decide)⟩ h3
      have h5 := tl_ok h4
      have h6 : tlN r % 4 = 0 := by
        rcases Nat.eq_zero_or_pos (tlN r % 4) with q | q
        · exact q
        · exact absurd ⟨rfl, Or.inr (by omega)⟩ h3
      have := tlN_lt r
      rw [e]
      exact ⟨by omega, h6, fun _ => ⟨by omega, rfl⟩, (fun e => by cases e), by omega⟩
end Go.Proofs.Ythepndimhiieiaa

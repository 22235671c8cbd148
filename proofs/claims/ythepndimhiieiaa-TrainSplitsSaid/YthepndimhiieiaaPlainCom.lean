/- Plain law of the header that control packets have. No program in sight. -/
import Derived.Test.YthepndimhiieiaaPlainOct2
namespace Go.Proofs.Ythepndimhiieiaa

/-- Is a header right? -/
def cRight (c t s : Int) : Bool := decide (0 ≤ c ∧ c ≤ 31 ∧ 0 ≤ t ∧ t ≤ 255 ∧ 4 ≤ s ∧ s ≤ 262144 ∧ s % 4 = 0)
/-- Its bytes. -/
def padBit (p : Bool) : Nat := cond p 32 0
def cBytes (p : Bool) (c t s : Int) : List UInt8 := [UInt8.ofNat (128 + c.toNat + padBit p), UInt8.ofNat t.toNat] ++ be 2 (s / 4 - 1).toNat
def b0 (b : List UInt8) : Nat := (b.getD 0 0).toNat
def b1 (b : List UInt8) : Nat := (b.getD 1 0).toNat
def b2 (b : List UInt8) : Nat := (b.getD 2 0).toNat
def b3 (b : List UInt8) : Nat := (b.getD 3 0).toNat
theorem b0_lt (b : List UInt8) : b0 b < 256 := UInt8.toNat_lt _
theorem b1_lt (b : List UInt8) : b1 b < 256 := UInt8.toNat_lt _
theorem b2_lt (b : List UInt8) : b2 b < 256 := UInt8.toNat_lt _
theorem b3_lt (b : List UInt8) : b3 b < 256 := UInt8.toNat_lt _
/-- The error of a read. -/
def cE (b : List UInt8) : Int := if b.length < 4 then 2 else if b0 b < 128 ∨ 191 < b0 b then 3 else if b.length < 4 * (256 * b2 b + b3 b + 1) then 4 else 0
def cP (b : List UInt8) : Bool := decide (cE b = 0) && decide (160 ≤ b0 b)
def cC (b : List UInt8) : Nat := if cE b = 0 then b0 b % 32 else 0
def cT (b : List UInt8) : Nat := if cE b = 0 then b1 b else 0
def cS (b : List UInt8) : Nat := if cE b = 0 then 4 * (256 * b2 b + b3 b + 1) else 0
theorem and31 (x : Nat) : x &&& 31 = x % 32 := Nat.and_two_pow_sub_one_eq_mod x 5
theorem and32 (x : Nat) : x &&& 32 = x / 32 % 2 * 32 := Go.nat_bit 5 x
theorem or32 (c : Nat) (h : c < 32) : (128 + c) ||| 32 = 128 + c + 32 := by
  have : ∀ c < 32, (128 + c) ||| 32 = 128 + c + 32 := by decide
  exact this c h
theorem or128 (c : Nat) (h : c < 128) : 128 ||| c = 128 + c := Go.nat_join 7 128 c (by omega) (by omega)
open Go in
theorem ofInt_i64 (a : Nat) (ha : a < 9223372036854775808) : (BitVec.ofInt 64 (a : Int)).toNat = a := by
  rw [BitVec.ofInt_natCast, BitVec.toNat_ofNat]; exact Nat.mod_eq_of_lt (by omega)
open Go in
theorem i64_or_nat (a b : Nat) (ha : a < 9223372036854775808) (hb : b < 9223372036854775808) : bits .or .i64 (a : Int) (b : Int) = ((a ||| b : Nat) : Int) := by
  have hx : a ||| b < 2 ^ 63 := Nat.or_lt_two_pow (by omega) (by omega)
  show IntKind.i64.wrap ((BitVec.ofInt 64 (a : Int) ||| BitVec.ofInt 64 (b : Int)).toNat : Int) = _
  rw [BitVec.toNat_or, ofInt_i64 a ha, ofInt_i64 b hb, IntKind.wrap_i64]
  omega
end Go.Proofs.Ythepndimhiieiaa

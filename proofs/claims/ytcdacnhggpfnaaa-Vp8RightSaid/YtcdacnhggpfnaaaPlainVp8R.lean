/- Layer 23 in plain Lean: what a reader reads. No program in sight. -/
import Derived.Test.YtcdacnhggpfnaaaPlainVp8
namespace Go.Proofs.Ytcdacnhggpfnaaa
structure Rs where
  at_ : Nat
  short : Bool
  p : Int
  l : Int
  k : Int
def tkN (b : List UInt8) (s : Rs) (k : Nat) : Nat := if s.at_ + k ≤ b.length then getV b s.at_ k else 0
def tkA (b : List UInt8) (s : Rs) (k : Nat) : Int := if s.at_ + k ≤ b.length then (s.at_ : Int) else -1
def tkS (b : List UInt8) (s : Rs) (k : Nat) : Rs := if s.at_ + k ≤ b.length then ⟨s.at_ + k, s.short, s.p, s.l, s.k⟩ else ⟨s.at_, true, s.p, s.l, s.k⟩
def picS (b : List UInt8) (s : Rs) : Rs :=
  if tkN b s 1 < 128 then { tkS b s 1 with p := tkA b s 1 } else { tkS b { s with p := (s.at_ : Int) } 2 with p := tkA b s 2 }
def picD (b : List UInt8) (s : Rs) (d : V8) : V8 :=
  if tkN b s 1 < 128 then { d with pic := (tkN b s 1 : Int) } else { d with wide := true, pic := ((tkN b s 2 % 32768 : Nat) : Int) }
def layS (b : List UInt8) (s : Rs) (d : V8) : Rs := { tkS b s 1 with k := if d.hasKey = true then tkA b s 1 else s.k }
def layD (b : List UInt8) (s : Rs) (d : V8) : V8 :=
  { d with sync := decide (tkN b s 1 / 32 % 2 = 1), tid := if d.hasTid = true then ((tkN b s 1 / 64 : Nat) : Int) else d.tid, key := if d.hasKey = true then ((tkN b s 1 % 32 : Nat) : Int) else d.key }
def rd2N (b : List UInt8) (s : Rs) : Nat := if 128 ≤ tkN b s 1 then tkN b (tkS b s 1) 1 else 0
def rd2S (b : List UInt8) (s : Rs) : Rs := if 128 ≤ tkN b s 1 then tkS b (tkS b s 1) 1 else tkS b s 1
def rd2D (f h : Nat) : V8 := ⟨decide (f / 32 % 2 = 1), decide (f / 16 % 2 = 1), ((f % 8 : Nat) : Int), decide (h / 128 % 2 = 1), false, 0, decide (h / 64 % 2 = 1), 0, decide (h / 32 % 2 = 1), decide (h / 16 % 2 = 1), 0, false, 0⟩
def st3 (b : List UInt8) (s : Rs) (d : V8) : Rs := if d.hasPic = true then picS b s else s
def sd3 (b : List UInt8) (s : Rs) (d : V8) : V8 := if d.hasPic = true then picD b s d else d
def st4 (b : List UInt8) (s : Rs) (d : V8) : Rs := if d.hasLevel = true then { tkS b s 1 with l := tkA b s 1 } else s
def sd4 (b : List UInt8) (s : Rs) (d : V8) : V8 := if d.hasLevel = true then { d with level := (tkN b s 1 : Int) } else d
def st5 (b : List UInt8) (s : Rs) (d : V8) : Rs := if d.hasTid = true ∨ d.hasKey = true then layS b s d else s
def sd5 (b : List UInt8) (s : Rs) (d : V8) : V8 := if d.hasTid = true ∨ d.hasKey = true then layD b s d else d
def rdAll (b : List UInt8) (s : Rs) : Rs × V8 :=
  let s2 := rd2S b s
  let d2 := rd2D (tkN b s 1) (rd2N b s)
  let s3 := st3 b s2 d2
  let d3 := sd3 b s2 d2
  let s4 := st4 b s3 d3
  let d4 := sd4 b s3 d3
  (st5 b s4 d4, sd5 b s4 d4)
def rdE (s : Rs) (d : V8) : Int := if s.short = true then 2 else if d.hasLevel = true ∧ d.hasPic = false then 6 else 0
def rdV (s : Rs) (d : V8) : V8 := if rdE s d = 0 then d else v8Zero
theorem tkS_at {b : List UInt8} {s : Rs} {k : Nat} (hb : b.length ≤ 1000000) (hs : s.at_ ≤ 1000000) : (tkS b s k).at_ ≤ 1000000 := by
  unfold tkS; split <;> (dsimp only; omega)
theorem rd2S_at {b : List UInt8} {s : Rs} (hb : b.length ≤ 1000000) (hs : s.at_ ≤ 1000000) : (rd2S b s).at_ ≤ 1000000 := by
  unfold rd2S
  split
  · exact tkS_at hb (tkS_at hb hs)
  · exact tkS_at hb hs
theorem st3_at {b : List UInt8} {s : Rs} {d : V8} (hb : b.length ≤ 1000000) (hs : s.at_ ≤ 1000000) : (st3 b s d).at_ ≤ 1000000 := by
  unfold st3
  split
  · unfold picS
    split
    · exact tkS_at (k := 1) hb hs
    · exact tkS_at (k := 2) (s := { s with p := (s.at_ : Int) }) hb hs
  · exact hs
theorem st4_at {b : List UInt8} {s : Rs} {d : V8} (hb : b.length ≤ 1000000) (hs : s.at_ ≤ 1000000) : (st4 b s d).at_ ≤ 1000000 := by
  unfold st4
  split
  · exact tkS_at (k := 1) hb hs
  · exact hs
end Go.Proofs.Ytcdacnhggpfnaaa

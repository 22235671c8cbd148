/- Bytes, cell by cell; parts of them. No program in sight. -/
import Derived.Test.YtcdacnhggpfnaaaWords
namespace Go.Proofs.Ytcdacnhggpfnaaa
open Go.RowKit
theorem Bytes.form {w : World} {A : Option Addr} {n c : Nat} {b : List UInt8} (h : Bytes w A n c b) (hn : 0 < n) : ∃ g o, A = some ⟨g, o, none⟩ ∧ g < w.heap.size := by
  obtain ⟨⟨g, o, sp⟩, rfl, hg⟩ := h.addr hn
  have h1 := h.cell (k := 0) hn
  have hs : sp = none := by simpa [Addr.add] using World.cell?_spot h1
  subst hs
  exact ⟨g, o, rfl, hg⟩
theorem Bytes.cellAt {w : World} {g o : Nat} {n c : Nat} {b : List UInt8} (h : Bytes w (some ⟨g, o, none⟩) n c b) (k : Nat) (hn : k < n) : w.cell? ⟨g, o + k, none⟩ = some (.int .u8 ((b.getD k 0).toNat : Int)) := by
  have h1 := h.cell hn
  rw [add_base] at h1
  rw [h1]
  simp [List.getD, show k < b.length by rw [h.len]; exact hn]
theorem Bytes.cellZero {w : World} {g o : Nat} {n c : Nat} {b : List UInt8} (h : Bytes w (some ⟨g, o, none⟩) n c b) (hn : 0 < n) : w.cell? ⟨g, o, none⟩ = some (.int .u8 ((b.getD 0 0).toNat : Int)) := h.cellAt 0 hn
theorem Bytes.recap {w : World} {A : Option Addr} {n c : Nat} {b : List UInt8} (h : Bytes w A n c b) {c' : Nat} (hc : n ≤ c') (h63 : c' ≤ 9223372036854775807) : Bytes w A n c' b := ⟨h.1, h.2.1, hc, h63⟩
theorem Bytes.part {w : World} {g o : Nat} {n c : Nat} {b : List UInt8} (h : Bytes w (some ⟨g, o, none⟩) n c b) {lo hi m c' : Nat} (h1 : lo ≤ hi) (h2 : hi ≤ n) (hm : hi - lo = m) (hc : m ≤ c') (h63 : c' ≤ 9223372036854775807) : Bytes w (some ⟨g, o + lo, none⟩) m c' ((b.drop lo).take m) := by
  have h3 := h.sub h1 h2
  rw [hm] at h3
  simp only [Option.map_some, add_base] at h3
  exact h3.recap hc h63
end Go.Proofs.Ytcdacnhggpfnaaa

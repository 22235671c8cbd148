/- A slice of bytes that came in, as a list of bytes. -/
import Derived.Test.YtcdacnhggpfnaaaWords
import Derived.ProofKit
import Derived.OpenShut
namespace Go.Proofs.Ytcdacnhggpfnaaa
open Go.RowKit

theorem Bytes.of_row {w : World} {a : Option Addr} {len cap : Nat} {zs : List Int}
    (h : (a = none ∧ len = 0 ∧ cap = 0 ∧ zs = []) ∨ ∃ x, a = some x ∧ len ≤ cap ∧ cap ≤ maxLen ∧ zs.length = cap ∧ (∀ i, i < zs.length → w.cell? (x.add i) = some (.int .u8 (zs.getD i 0))) ∧ ∀ n ∈ zs, (Lit.int .u8 n).wf = true) :
    ∃ l, Bytes w a len cap l := by
  rcases h with ⟨rfl, rfl, rfl, rfl⟩ | ⟨x, rfl, hl, hm, hz, hc, hw⟩
  · exact ⟨[], Bytes.nil w⟩
  · refine ⟨(zs.take len).map fun n => UInt8.ofNat n.toNat, ⟨by simp; omega, fun hn => ⟨x, rfl, ?_, fun j u hj => ?_⟩⟩, by simp; omega, hl, by unfold maxLen at hm; omega⟩
    · have := World.block_lt_of_cell? w _ (hc 0 (by omega))
      rwa [block_of_add] at this
    · have hj2 : j < len ∧ j < zs.length := by
        rcases Nat.lt_or_ge j (min len zs.length) with h | h
        · omega
        · rw [List.getElem?_eq_none (by simp; omega)] at hj
          cases hj
      rw [hc j hj2.2]
      have hz1 : zs.getD j 0 = zs[j]'hj2.2 := by simp [List.getD, hj2.2]
      have hwf := hw _ (List.getElem_mem hj2.2)
      simp [hj2.1, hj2.2] at hj
      rw [hz1, ← hj]
      unfold Bv
      congr 2
      have hb := bounds_u8 hwf
      rw [UInt8.toNat_ofNat']
      omega
end Go.Proofs.Ytcdacnhggpfnaaa

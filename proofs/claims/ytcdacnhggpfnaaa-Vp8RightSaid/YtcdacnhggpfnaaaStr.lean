/- string(b); a literal of bytes. -/
import Derived.Test.YtcdacnhggpfnaaaBytes
import Derived.Test.YtcdacnhggpfnaaaAppend
import Derived.Laws.BytesArg
namespace Go.Proofs.Ytcdacnhggpfnaaa
open Go.RowKit

/-- string(b). -/
theorem run_str {w : World} {A : Option Addr} {n c : Nat} {l : List UInt8} (h : Bytes w A n c l) : (convert 22 9 (.slice A n c)).run Try.prog w = .ok (.string ⟨l.toArray⟩) w := by
  rw [run_convert_bytes_string w 22 9 5 A n c Try.underlying22 Try.underlying5 Try.underlying9]
  rcases A with _ | ad
  · have h0 : n = 0 := by
      rcases Nat.eq_zero_or_pos n with h0 | h0
      · exact h0
      · obtain ⟨_, e, _⟩ := h.addr h0
        cases e
    have hl : l = [] := List.eq_nil_of_length_eq_zero (by rw [h.len, h0])
    subst hl
    simp [Conv.bytesToString]
    rfl
  · have hc := run_loadCells_list (P := Try.prog) w ad (l.map Bv) (fun j u hj => by
      have hjl : j < l.length := by
        rcases Nat.lt_or_ge j l.length with h | h
        · exact h
        · simp [List.getElem?_eq_none (show (l.map Bv).length ≤ j by simpa using h)] at hj
      have h1 := h.cell (k := j) (by rw [← h.len]; exact hjl)
      rw [h1]
      simpa [hjl, Bv] using hj)
    rw [List.length_map, h.len, show l.map Bv = (l.map (fun x => (x.toNat : Int))).map (Value.int .u8) by simp [Bv]] at hc
    rw [run_bytesToString w ad n c _ hc, foldl_push_bytes]
    simp [ByteArray.empty, ByteArray.emptyWithCapacity]
    have e : ∀ m : List UInt8, m.map ((fun n : Int => UInt8.ofNat n.toNat) ∘ fun x : UInt8 => (x.toNat : Int)) = m := by
      intro m
      induction m with
      | nil => rfl
      | cons x m ih => rw [List.map_cons, ih]; simp
    rw [e]
    rfl
/-- A literal of bytes. -/
theorem Bytes.lit {w : World} {vs : List Value} (l : List UInt8) (t : TypeId) (n : Nat) (hv : l.map Bv = vs) (hn : l.length = n) (h63 : n ≤ 1048576) : Bytes (w.alloc (.cells vs.toArray t)) (some ⟨w.heap.size, 0, none⟩) n n l := by
  subst hv
  have hb := Blk.new w t (l.map Bv).toArray
  refine ⟨⟨by simp [hn], fun _ => ⟨_, rfl, by simp, fun j u hj => ?_⟩⟩, hn, Nat.le_refl _, by omega⟩
  rw [add_head, hb.cell j, ← hj]
  simp
end Go.Proofs.Ytcdacnhggpfnaaa

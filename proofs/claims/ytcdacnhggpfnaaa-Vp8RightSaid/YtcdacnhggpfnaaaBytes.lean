/- Bytes in this translation: the table's row; make([]byte, n). -/
import Derived.Test.YtcdacnhggpfnaaaChecked
import Derived.Test.YtcdacnhggpfnaaaWords
import Derived.WalkKit
namespace Go.Proofs.Ytcdacnhggpfnaaa
open Go.RowKit
theorem byte_info : (Try.prog.info? 5).map (fun i => (i.zero, i.size, i.bytes)) = some (some (.int .u8 0), 1, 1) := by kernel_rfl
/-- make([]byte, n). -/
theorem make_bytes (n : Nat) (hn : n ≤ 140737488355328) (W : World) : (Instr.makeSlice 22 (.int .i64 (n : Int)) (.int .i64 (n : Int))).run Try.prog W =
    .ok (.slice (some ⟨W.heap.size, 0, none⟩) n n) (W.alloc (.cells (Array.replicate n (Bv 0)) 5)) := by
  obtain ⟨i0, hi, hz0, hz1, hz2⟩ := info_parts byte_info
  have h := run_make (P := Try.prog) W 22 5 i0 _ Try.underlying22 hi hz0 .i64 .i64 n n (by omega) (by omega) (by rw [hz2]; omega) (by omega)
  simp only [Int.toNat_natCast, hz1, Nat.mul_one] at h
  rw [h, show (Value.int IntKind.u8 0).cells = #[.int .u8 0] from rfl, made_bytes]

end Go.Proofs.Ytcdacnhggpfnaaa

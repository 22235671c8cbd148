/- Layer 5 for the walk of a law: results by name; the fixed answer. -/
import Derived.Test.YtiamcdbnhmlhaaaHeadW
import Derived.Test.YtiamcdbnhmlhaaaHeadRr
import Derived.Test.YtiamcdbnhmlhaaaHeadS
import Derived.Test.YtiamcdbnhmlhaaaStr
namespace Go.Proofs.Ytiamcdbnhmlhaaa
open Go.RowKit
theorem hread_B (A : Option Addr) (n c : Nat) (b : List UInt8) (w : World) (hb : Bytes w A n c b) (h : Hd) (e1 : hH b = h) (N : Nat) (e2 : hN b = N) (E : Int) (e3 : hE b = E) : Calls Try.prog 31 #[.slice A n c] w fun e w' =>
    ∃ A' c', e = .returned (.tuple #[.agg #[.bool h.pad, .bool h.ext, .bool h.mark, .int .i64 h.typ, .int .u16 (h.seq.toNat : Int), .int .u32 (h.time.toNat : Int), .int .u32 (h.ssrc.toNat : Int), .slice A' h.csrc.length c'], .int .i64 (N : Int), .int .i64 E]) ∧ Els e32 w' A' h.csrc.length c' h.csrc ∧ Ext w w' := by
  subst e1 e2 e3
  exact hread_any A n c b w hb
theorem rhread_B (A : Option Addr) (n c : Nat) (b : List UInt8) (w : World) (hb : Bytes w A n c b) (h : Hd) (e1 : hH b = h) (N : Nat) (e2 : hN b = N) (E : Int) (e3 : hE b = E) : Calls Try.prog 32 #[.slice A n c] w fun e w' =>
    ∃ A' c', e = .returned (.tuple #[.agg #[.bool h.pad, .bool h.ext, .bool h.mark, .int .i64 h.typ, .int .u16 (h.seq.toNat : Int), .int .u32 (h.time.toNat : Int), .int .u32 (h.ssrc.toNat : Int), .slice A' h.csrc.length c'], .int .i64 (N : Int), .int .i64 E]) ∧ Els e32 w' A' h.csrc.length c' h.csrc ∧ Ext w w' := by
  subst e1 e2 e3
  exact rhread_any A n c b w hb
theorem hright_B (h : Hd) (A : Option Addr) (n c : Nat) (w : World) (r : Bool) (e : hRight h.typ n = r) : Calls Try.prog 33 #[.agg #[.bool h.pad, .bool h.ext, .bool h.mark, .int .i64 h.typ, .int .u16 (h.seq.toNat : Int), .int .u32 (h.time.toNat : Int), .int .u32 (h.ssrc.toNat : Int), .slice A n c]] w fun e w' => e = .returned (.bool r) ∧ Ext w w' := by
  subst e
  exact hright_any h A n c w
theorem rhright_B (h : Hd) (A : Option Addr) (n c : Nat) (w : World) (r : Bool) (e : hRight h.typ n = r) : Calls Try.prog 27 #[.agg #[.bool h.pad, .bool h.ext, .bool h.mark, .int .i64 h.typ, .int .u16 (h.seq.toNat : Int), .int .u32 (h.time.toNat : Int), .int .u32 (h.ssrc.toNat : Int), .slice A n c]] w fun e w' => e = .returned (.bool r) ∧ Ext w w' := by
  subst e
  exact rhright_any h A n c w
end Go.Proofs.Ytiamcdbnhmlhaaa

/- append of bytes to bytes of the call's own. -/
import Derived.Test.YtcdacnhggpfnaaaAppend
import Derived.Test.YtcdacnhggpfnaaaBytes
namespace Go.Proofs.Ytcdacnhggpfnaaa
open Go.RowKit

theorem wp_appB {o : Oper} {a : Act} {w : World} {K : Act → World → Prop} {Q : Exit → Act → World → Prop} (w0 : World) (s x : Operand)
    (ho : o.op = .call { callee := .builtin .append, args := #[s, x], argTypes := #[22, 22] }) (hE : Ext w0 w)
    (A0 : Option Addr) (n c0 : Nat) (l : List UInt8) (hs : a.eval s = .slice A0 n c0) (hown : w.ownsRow w0.heap.size 5 1 (.slice A0 n c0) n (l.map Bv))
    (A : Option Addr) (m c : Nat) (r : List UInt8) (hx : a.eval x = .slice A m c) (hb : Bytes w A m c r) (hlen : n + m ≤ 70368744177664)
    (h : ∀ A' c' w', w'.ownsRow w0.heap.size 5 1 (.slice A' (n + m) c') (n + m) ((l ++ r).map Bv) → Ext w0 w' → K (a.put o.dst (.slice A' (n + m) c')) w') :
    o.wp Try.prog a w K Q := by
  obtain ⟨i0, hi, hz0, hz1, hz2⟩ := info_parts byte_info
  refine wp_append_any _ s x _ ho w0.heap.size 5 i0 _ 1 1 Try.underlying22 hi hz0 hz1 hz2 rfl (by omega) (.slice A0 n c0) _ _ hs hown w.heap.size A m c _ hx hb.1 hb.one (by unfold maxLen; omega) (by omega) hE.size ?_
  intro v' w2 hown2 hg2 hat2
  obtain ⟨A3, c3, rfl⟩ := own_form hown2
  exact h A3 c3 w2 (by rw [List.map_append]; exact hown2) (Ext.appended hE hown hg2)
theorem wpList_appB {ops : Array Oper} {rest : List Oper} {o : Oper} {a : Act} {w : World} {Q : Exit → Act → World → Prop} (w0 : World) (s x : Operand) (hgd : o.guard = none)
    (ho : o.op = .call { callee := .builtin .append, args := #[s, x], argTypes := #[22, 22] }) (hE : Ext w0 w)
    (A0 : Option Addr) (n c0 : Nat) (l : List UInt8) (hs : a.eval s = .slice A0 n c0) (hown : w.ownsRow w0.heap.size 5 1 (.slice A0 n c0) n (l.map Bv))
    (A : Option Addr) (m c : Nat) (r : List UInt8) (hx : a.eval x = .slice A m c) (hb : Bytes w A m c r) (hlen : n + m ≤ 70368744177664)
    (h : ∀ A' c' w', w'.ownsRow w0.heap.size 5 1 (.slice A' (n + m) c') (n + m) ((l ++ r).map Bv) → Ext w0 w' → wpList Try.prog ops Q rest (a.put o.dst (.slice A' (n + m) c')) w') :
    wpList Try.prog ops Q (o :: rest) a w :=
  wpList_plain hgd fun _ hK => wp_appB w0 s x ho hE A0 n c0 l hs hown A m c r hx hb hlen fun A' c' w' h1 h2 => hK _ _ (h A' c' w' h1 h2)
theorem own_empty (w : World) : (w.alloc (.cells #[] 5)).ownsRow w.heap.size 5 1 (.slice (some ⟨w.heap.size, 0, none⟩) 0 0) 0 (([] : List UInt8).map Bv) :=
  World.ownsRow_lit (base := w.heap.size) (e := 5) (size := 1) w #[] 0 (Nat.le_refl _) (by unfold maxLen; omega) rfl
end Go.Proofs.Ytcdacnhggpfnaaa

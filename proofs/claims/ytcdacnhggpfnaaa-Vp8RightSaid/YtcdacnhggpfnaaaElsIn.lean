/- append to an owned list, inside a fence; an owned row through the books of a range over a function. No program in sight. -/
import Derived.Test.YtcdacnhggpfnaaaEls
import Derived.OwnWalkIn
import Derived.RangeFuncOwn
namespace Go.Proofs.Ytcdacnhggpfnaaa
open Go.RowKit
variable {α : Type} {E : Enc α} {P : Program} {t e : TypeId}
theorem wpListIn_appE (T : Ty P E t e) {F : Fence} {fn : Nat} {ops : Array Oper} {rest : List Oper} {o : Oper} {a : Act} {w : World} {Q : Exit → Act → World → Prop} (w0 : World) (s x : Operand) (hgd : o.guard = none)
    (ho : o.op = .call { callee := .builtin .append, args := #[s, x], argTypes := #[t, t] }) (hE : Ext w0 w)
    (A0 : Option Addr) (n c0 : Nat) (l : List α) (hs : a.eval s = .slice A0 n c0) (hown : w.ownsRow w0.heap.size e E.size (.slice A0 n c0) n (E.cells l))
    (A : Option Addr) (m c : Nat) (r : List α) (hx : a.eval x = .slice A m c) (hb : Els E w A m c r) (hlen : n + m ≤ 1099511627776)
    (h : ∀ A' c' w', w'.ownsRow w0.heap.size e E.size (.slice A' (n + m) c') (n + m) (E.cells (l ++ r)) → Ext w0 w' → w.grownBy w' (Value.slice A0 n c0).ownBlock → Keep w w' (.slice A0 n c0) (.slice A' (n + m) c') → wpListIn F fn P ops Q rest (a.put o.dst (.slice A' (n + m) c')) w') :
    wpListIn F fn P ops Q (o :: rest) a w := by
  have hby : (n + m) * T.i.bytes ≤ 1099511627776 * 64 := Nat.mul_le_mul hlen T.hby
  refine wpListIn_plain hgd fun K hK' => ?_
  obtain ⟨v', w', hrun, r1, r2, r3⟩ := run_append_any (P := P) w w0.heap.size t o.type e T.i T.z E.size T.i.bytes T.under T.hi T.hz T.hsize rfl T.hzs E.pos (.slice A0 n c0) _ _ hown w.heap.size A m c _ hb.1 (Enc.cells_one _) (by unfold maxLen; omega) (by omega) hE.size
  unfold Oper.wpIn
  refine ⟨?_, ?_⟩
  · simp [Oper.about, ho, resolve, Target.leads, Sem.run_pure]
  · rw [Oper.semAt_plain F _ _ (by rw [ho]; intro c hc'; cases hc')]
    simp [execOp, ho, resolve, invoke, builtin, hs, hx, hrun, Result.andThen]
    obtain ⟨A3, c3, rfl⟩ := own_form r1
    exact hK' _ _ (h A3 c3 w' (by rw [Enc.cells_append]; exact r1) (Ext.appended hE hown r2) r2 (Keep.of r2 r3))
theorem own_books {w w' : World} {row : Option Nat} {base : Nat} {e : TypeId} {size n : Nat} {v : Value} {xs : List Value} (h : w.ownsRow base e size v n xs) (hg : w.grownBy w' row) (hr : ∀ r, row = some r → ∃ o : Obj, w.heap[r]? = some o ∧ o.isCells = false) : w'.ownsRow base e size v n xs := by
  refine ⟨h.1, ?_⟩
  rcases h.2 with h0 | ⟨g, cap, cur, h1, h2, h3, h4⟩
  · exact .inl h0
  · refine .inr ⟨g, cap, cur, h1, h2, (hg.block g (Array.getElem?_eq_some_iff.1 h3).1 fun e => ?_).trans h3, h4⟩
    obtain ⟨o, ho, hc⟩ := hr g e.symm
    rw [h3] at ho
    cases ho
    cases hc
theorem own_ext {w w' : World} {base : Nat} {e : TypeId} {size n : Nat} {v : Value} {xs : List Value} (h : w.ownsRow base e size v n xs) (hE : Ext w w') : w'.ownsRow base e size v n xs := by
  refine ⟨h.1, ?_⟩
  rcases h.2 with h0 | ⟨g, cap, cur, h1, h2, h3, h4⟩
  · exact .inl h0
  · exact .inr ⟨g, cap, cur, h1, h2, (hE.block g (Array.getElem?_eq_some_iff.1 h3).1).trans h3, h4⟩
theorem own_set {w : World} {base : Nat} {e : TypeId} {size n : Nat} {v : Value} {xs : List Value} (h : w.ownsRow base e size v n xs) {p : Addr} (hp : v.ownBlock ≠ some p.block) (u : Value) : (w.setCell p u).ownsRow base e size v n xs :=
  h.kept (row := some p.block) ⟨rfl, rfl, rfl, by simp, fun k _ hk => Below.heap_setCell w p u k (fun e => hk (by rw [e]))⟩ (.inr hp)
theorem KeepsOthers.of_ext {w w' : World} (h : Ext w w') : KeepsOthers w w' := ⟨h.size, fun k o hk _ => by
  rw [h.block k (Array.getElem?_eq_some_iff.1 hk).1]; exact hk⟩
theorem own_isCells {w : World} {base : Nat} {e : TypeId} {size n : Nat} {v : Value} {xs : List Value} (h : w.ownsRow base e size v n xs) : ∀ (j : Nat) (o : Obj), v.ownBlock = some j → w.heap[j]? = some o → o.isCells = true := by
  intro j o hj ho
  rcases h.2 with ⟨rfl, _⟩ | ⟨g, cap, cur, rfl, _, hg, _⟩
  · cases hj
  · cases hj
    rw [hg] at ho
    cases ho
    rfl
theorem wp_appEg (T : Ty P E t e) {o : Oper} {a : Act} {w : World} {K : Act → World → Prop} {Q : Exit → Act → World → Prop} (w0 : World) (s x : Operand)
    (ho : o.op = .call { callee := .builtin .append, args := #[s, x], argTypes := #[t, t] }) (hE : Ext w0 w)
    (A0 : Option Addr) (n c0 : Nat) (l : List α) (hs : a.eval s = .slice A0 n c0) (hown : w.ownsRow w0.heap.size e E.size (.slice A0 n c0) n (E.cells l))
    (A : Option Addr) (m c : Nat) (r : List α) (hx : a.eval x = .slice A m c) (hb : Els E w A m c r) (hlen : n + m ≤ 1099511627776)
    (h : ∀ A' c' w', w'.ownsRow w0.heap.size e E.size (.slice A' (n + m) c') (n + m) (E.cells (l ++ r)) → Ext w0 w' → w.grownBy w' (Value.slice A0 n c0).ownBlock → Keep w w' (.slice A0 n c0) (.slice A' (n + m) c') → K (a.put o.dst (.slice A' (n + m) c')) w') :
    o.wp P a w K Q := by
  have hby : (n + m) * T.i.bytes ≤ 1099511627776 * 64 := Nat.mul_le_mul hlen T.hby
  refine wp_append_any _ s x _ ho w0.heap.size e T.i T.z E.size T.i.bytes T.under T.hi T.hz T.hsize rfl T.hzs E.pos (.slice A0 n c0) _ _ hs hown w.heap.size A m c _ hx hb.1 (Enc.cells_one _) (by unfold maxLen; omega) (by omega) hE.size ?_
  intro v' w2 hown2 hg2 hat2
  obtain ⟨A3, c3, rfl⟩ := own_form hown2
  exact h A3 c3 w2 (by rw [Enc.cells_append]; exact hown2) (Ext.appended hE hown hg2) hg2 (Keep.of hg2 hat2)
end Go.Proofs.Ytcdacnhggpfnaaa

/- Lists of whatever elements, each of so many cells: what a slice of them reads as; what is owned; append. No program in sight. -/
import Derived.Test.YtcdacnhggpfnaaaAppend
namespace Go.Proofs.Ytcdacnhggpfnaaa
open Go.RowKit

/-- How an element lies in cells. -/
structure Enc (α : Type) where
  f : α → List Value
  size : Nat
  len : ∀ x, (f x).length = size
  pos : 0 < size
  one : ∀ x, ∀ u ∈ f x, u.oneCell' = true
variable {α : Type} {E : Enc α}
def Enc.cells (E : Enc α) (l : List α) : List Value := l.flatMap E.f
theorem Enc.cells_len (l : List α) : (E.cells l).length = l.length * E.size := by
  unfold Enc.cells
  induction l with
  | nil => simp
  | cons x l ih => rw [List.flatMap_cons, List.length_append, ih, E.len, List.length_cons, Nat.add_mul]; omega
theorem Enc.cells_append (l m : List α) : E.cells (l ++ m) = E.cells l ++ E.cells m := by simp [Enc.cells]
theorem Enc.cells_one (l : List α) : ∀ u ∈ E.cells l, u.oneCell' = true := by
  intro u hu
  obtain ⟨x, _, hx⟩ := List.mem_flatMap.1 hu
  exact E.one x u hx
theorem Enc.cells_at (l : List α) (i j : Nat) (hi : i < l.length) (hj : j < E.size) : (E.cells l)[i * E.size + j]? = (E.f l[i])[j]? := by
  unfold Enc.cells
  induction l generalizing i with
  | nil => simp at hi
  | cons x l ih =>
    rw [List.flatMap_cons]
    cases i with
    | zero => rw [Nat.zero_mul, Nat.zero_add, List.getElem?_append_left (by rw [E.len]; exact hj)]; rfl
    | succ i =>
      rw [List.getElem?_append_right (by rw [E.len, Nat.add_mul]; omega), E.len]
      have : (i + 1) * E.size + j - E.size = i * E.size + j := by rw [Nat.add_mul]; omega
      rw [this, ih i (by simpa using hi)]
      rfl
/-- The slice reads as the list. -/
def Els (E : Enc α) (w : World) (A : Option Addr) (n c : Nat) (l : List α) : Prop := Reads w w.heap.size E.size A n (E.cells l) ∧ l.length = n ∧ n ≤ c ∧ c ≤ 9223372036854775807
section
variable {w w' : World} {A : Option Addr} {n c : Nat} {l : List α}
theorem Els.len (h : Els E w A n c l) : l.length = n := h.2.1
theorem Els.le (h : Els E w A n c l) : n ≤ c := h.2.2.1
theorem Els.reach (h : Els E w A n c l) : c ≤ 9223372036854775807 := h.2.2.2
theorem Els.ext (h : Els E w A n c l) (hb : Ext w w') : Els E w' A n c l := by
  refine ⟨⟨h.1.1, fun h0 => ?_⟩, h.2⟩
  obtain ⟨ad, e, hlt, hc⟩ := h.1.2 h0
  exact ⟨ad, e, by have := hb.size; omega, fun j u hu => (hb.cell (p := ad.add j) (by rw [block_of_add]; exact hlt)).trans (hc j u hu)⟩
theorem Els.alloc (h : Els E w A n c l) (o : Obj) : Els E (w.alloc o) A n c l := h.ext ((Ext.refl w).alloc o)
theorem Els.drew (h : Els E w A n c l) : Els E w.drew A n c l := h
theorem Els.nil (w : World) : Els E w none 0 0 [] := ⟨⟨by simp [Enc.cells], fun h => absurd h (by omega)⟩, rfl, Nat.le_refl _, by omega⟩
theorem Els.none_of (h : Els E w none n c l) : n = 0 ∧ l = [] := by
  have h0 : n = 0 := by
    rcases Nat.eq_zero_or_pos n with h0 | h0
    · exact h0
    · obtain ⟨ad, e, _⟩ := h.1.2 h0
      cases e
  exact ⟨h0, List.eq_nil_of_length_eq_zero (by rw [h.len, h0])⟩
theorem Els.addr (h : Els E w A n c l) (h0 : 0 < n) : ∃ g o, A = some ⟨g, o, none⟩ ∧ g < w.heap.size ∧ ∀ i j, ∀ hi : i < n, j < E.size → w.cell? ⟨g, o + (i * E.size + j), none⟩ = (E.f (l[i]'(by rw [h.len]; exact hi)))[j]? := by
  obtain ⟨⟨g, o, sp⟩, e, hlt, hc⟩ := h.1.2 h0
  have hp := E.pos
  have hat : ∀ i j, ∀ hi : i < n, j < E.size → w.cell? ((⟨g, o, sp⟩ : Addr).add (i * E.size + j)) = (E.f (l[i]'(by rw [h.len]; exact hi)))[j]? := by
    intro i j hi hj
    have h1 := Enc.cells_at (E := E) l i j (by rw [h.len]; exact hi) hj
    have h2 : j < (E.f (l[i]'(by rw [h.len]; exact hi))).length := by rw [E.len]; exact hj
    rw [List.getElem?_eq_getElem h2] at h1 ⊢
    exact hc _ _ h1
  have hs : sp = none := by
    have h1 := hat 0 0 h0 hp
    rw [List.getElem?_eq_getElem (by rw [E.len]; exact hp)] at h1
    simpa [Addr.add] using World.cell?_spot h1
  subst hs
  refine ⟨g, o, e, hlt, fun i j hi hj => ?_⟩
  have := hat i j hi hj
  rwa [add_base] at this
theorem Els.take (h : Els E w A n c l) {m : Nat} (hm : m ≤ n) : Els E w A m c (l.take m) := by
  have hl : (l.take m).length = m := by rw [List.length_take, h.len]; omega
  refine ⟨⟨by rw [Enc.cells_len, hl], fun h0 => ?_⟩, hl, by have := h.2.2.1; omega, h.2.2.2⟩
  obtain ⟨ad, e, hb, hc⟩ := h.1.2 (by omega)
  refine ⟨ad, e, hb, fun j u hu => hc j u ?_⟩
  rw [show E.cells l = E.cells (l.take m) ++ E.cells (l.drop m) by rw [← Enc.cells_append, List.take_append_drop]]
  rw [List.getElem?_append_left]
  · exact hu
  · rcases Nat.lt_or_ge j (E.cells (l.take m)).length with h | h
    · exact h
    · rw [List.getElem?_eq_none h] at hu; cases hu
/-- An owned row, read. -/
theorem Els.own {base : Nat} {e : TypeId} (h : w.ownsRow base e E.size (.slice A n c) n (E.cells l)) : Els E w A n c l := by
  have hl : l.length = n := by
    have h1 := h.1
    rw [Enc.cells_len] at h1
    exact Nat.eq_of_mul_eq_mul_right E.pos h1
  refine ⟨Reads.of_own h, hl, ?_⟩
  rcases h.2 with ⟨hv, hn⟩ | ⟨g, cap, cur, hv, _, _, hnc, hm, _⟩
  · injection hv with _ h1 h2
    subst h1 h2
    omega
  · injection hv with _ _ h2
    subst h2
    exact ⟨hnc, hm⟩
/-- A literal. -/
theorem Els.lit {vs : List Value} (l : List α) (t : TypeId) (n : Nat) (hv : E.cells l = vs) (hn : l.length = n) (h63 : n ≤ 1048576) : Els E (w.alloc (.cells vs.toArray t)) (some ⟨w.heap.size, 0, none⟩) n n l := by
  subst hv
  have hb := Blk.new w t (E.cells l).toArray
  refine ⟨⟨by rw [Enc.cells_len, hn], fun _ => ⟨_, rfl, by simp, fun j u hj => ?_⟩⟩, hn, Nat.le_refl _, by omega⟩
  rw [add_head, hb.cell j, ← hj]
  simp
theorem Els.lit_at {vs : List Value} {g : Nat} (hg : w.heap.size = g) (l : List α) (t : TypeId) (n : Nat) (hv : E.cells l = vs) (hn : l.length = n) (h63 : n ≤ 1048576) : Els E (w.alloc (.cells vs.toArray t)) (some ⟨g, 0, none⟩) n n l := by
  subst hg
  exact Els.lit l t n hv hn h63
end
/-- What an append leaves: every block but the row's own; and a block that was not the row's own is not the new row's. -/
def Keep (w w' : World) (v v' : Value) : Prop := ∀ b, b < w.heap.size → v.ownBlock ≠ some b → v'.ownBlock ≠ some b ∧ w'.heap[b]? = w.heap[b]?
theorem Keep.of {w w' : World} {v v' : Value} (hg : w.grownBy w' v.ownBlock) (ha : v'.ownBlock = v.ownBlock ∨ v'.ownBlock = some w.heap.size) : Keep w w' v v' := by
  intro b hb hne
  refine ⟨?_, hg.block b hb (fun e => hne e.symm)⟩
  rcases ha with h | h
  · rw [h]; exact hne
  · rw [h]; intro e; cases e; omega
theorem Keep.blk {w w' : World} {v v' : Value} (h : Keep w w' v v') {b : Nat} {t : TypeId} {cs : Array Value} (hb : Blk w b t cs) (hne : v.ownBlock ≠ some b) : Blk w' b t cs ∧ v'.ownBlock ≠ some b := by
  obtain ⟨h1, h2⟩ := h b hb.lt hne
  exact ⟨h2.trans hb, h1⟩
theorem own_apart {w : World} {base : Nat} {e : TypeId} {size n : Nat} {v : Value} {xs : List Value} (h : w.ownsRow base e size v n xs) {b : Nat} (hb : w.heap.size ≤ b) : v.ownBlock ≠ some b := by
  intro e'
  have := h.lt b e'
  omega
/-- The table's row of a slice type. -/
structure Ty (P : Program) (E : Enc α) (t e : TypeId) where
  under : P.underlying t = some (.slice e)
  i : TypeInfo
  z : Value
  hi : P.info? e = some i
  hz : i.zero = some z
  hsize : i.size = E.size
  hby : i.bytes ≤ 64
  hzs : z.cells.size = E.size
variable {P : Program} {t e : TypeId}
theorem wp_appE (T : Ty P E t e) {o : Oper} {a : Act} {w : World} {K : Act → World → Prop} {Q : Exit → Act → World → Prop} (w0 : World) (s x : Operand)
    (ho : o.op = .call { callee := .builtin .append, args := #[s, x], argTypes := #[t, t] }) (hE : Ext w0 w)
    (A0 : Option Addr) (n c0 : Nat) (l : List α) (hs : a.eval s = .slice A0 n c0) (hown : w.ownsRow w0.heap.size e E.size (.slice A0 n c0) n (E.cells l))
    (A : Option Addr) (m c : Nat) (r : List α) (hx : a.eval x = .slice A m c) (hb : Els E w A m c r) (hlen : n + m ≤ 1099511627776)
    (h : ∀ A' c' w', w'.ownsRow w0.heap.size e E.size (.slice A' (n + m) c') (n + m) (E.cells (l ++ r)) → Ext w0 w' → Keep w w' (.slice A0 n c0) (.slice A' (n + m) c') → K (a.put o.dst (.slice A' (n + m) c')) w') :
    o.wp P a w K Q := by
  have hby : (n + m) * T.i.bytes ≤ 1099511627776 * 64 := Nat.mul_le_mul hlen T.hby
  refine wp_append_any _ s x _ ho w0.heap.size e T.i T.z E.size T.i.bytes T.under T.hi T.hz T.hsize rfl T.hzs E.pos (.slice A0 n c0) _ _ hs hown w.heap.size A m c _ hx hb.1 (Enc.cells_one _) (by unfold maxLen; omega) (by omega) hE.size ?_
  intro v' w2 hown2 hg2 hat2
  obtain ⟨A3, c3, rfl⟩ := own_form hown2
  exact h A3 c3 w2 (by rw [Enc.cells_append]; exact hown2) (Ext.appended hE hown hg2) (Keep.of hg2 hat2)
theorem wpList_appE (T : Ty P E t e) {ops : Array Oper} {rest : List Oper} {o : Oper} {a : Act} {w : World} {Q : Exit → Act → World → Prop} (w0 : World) (s x : Operand) (hgd : o.guard = none)
    (ho : o.op = .call { callee := .builtin .append, args := #[s, x], argTypes := #[t, t] }) (hE : Ext w0 w)
    (A0 : Option Addr) (n c0 : Nat) (l : List α) (hs : a.eval s = .slice A0 n c0) (hown : w.ownsRow w0.heap.size e E.size (.slice A0 n c0) n (E.cells l))
    (A : Option Addr) (m c : Nat) (r : List α) (hx : a.eval x = .slice A m c) (hb : Els E w A m c r) (hlen : n + m ≤ 1099511627776)
    (h : ∀ A' c' w', w'.ownsRow w0.heap.size e E.size (.slice A' (n + m) c') (n + m) (E.cells (l ++ r)) → Ext w0 w' → Keep w w' (.slice A0 n c0) (.slice A' (n + m) c') → wpList P ops Q rest (a.put o.dst (.slice A' (n + m) c')) w') :
    wpList P ops Q (o :: rest) a w :=
  wpList_plain hgd fun _ hK => wp_appE T w0 s x ho hE A0 n c0 l hs hown A m c r hx hb hlen fun A' c' w' h1 h2 h3 => hK _ _ (h A' c' w' h1 h2 h3)
end Go.Proofs.Ytcdacnhggpfnaaa

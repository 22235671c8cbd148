/- append of zeros ('append(x, make([]byte, k)...)') to bytes of the call's own. -/
import Derived.Test.YtiamcdbnhmlhaaaDoorAppB
import Derived.Lib.AppendStr
import Derived.Lib.AppendZeros
namespace Go.Proofs.YtiamcdbnhmlhaaaDoor
open Go.RowKit

/-- The same as an append of a string of zeros. -/
theorem append_zeros_eq {P : Program} (w : World) (t tn u ty e : TypeId) (i : TypeInfo) (kq kn : IntKind) (ht : P.underlying t = some (.slice e)) (htn : P.underlying tn = some (.int kn)) (hu : P.underlying u = some .string) (hi : P.info? e = some i)
    (hz : i.zero = some (.int .u8 0)) (hsize : i.size = 1) (hby : i.bytes = 1) (base : Option Addr) (l c k : Nat) (hlc : l ≤ c) (hk : l + k ≤ 140737488355328) :
    (Builtin.append_ #[t, tn] ty #[.slice base l c, .int kq k]).run P w = (Builtin.append_ #[t, u] ty #[.slice base l c, .string ⟨Array.replicate k 0⟩]).run P w := by
  have hw : IntKind.i64.wrap (k : Int) = k := by rw [IntKind.wrap_i64]; omega
  have hneg : ¬ ((k : Int) < 0) := by omega
  have h48i : ¬ (281474976710656 < (k : Int)) := by omega
  have h63' : ¬ (9223372036854775807 < ((l : Int) + (k : Int))) := by omega
  have hs : (⟨Array.replicate k 0⟩ : ByteArray).size = k := by simp [ByteArray.size]
  have hf : ∀ W, (Builtin.firstCells 1 k (.string ⟨Array.replicate k 0⟩)).run P W = .ok (Builtin.zeroCells #[.int .u8 0] k) W := by
    intro W
    have : (⟨Array.replicate k 0⟩ : ByteArray).extract 0 k = ⟨Array.replicate k 0⟩ := by
      apply ByteArray.ext
      simp
    simp only [Builtin.firstCells, this, Sem.run_pure]
    congr 1
    apply Array.ext
    · simp [Builtin.zeroCells]
    · intro j h1 h2
      simp [Builtin.zeroCells] at h1 h2 ⊢
      rw [Nat.mod_one]
      rfl
  rcases Nat.eq_zero_or_pos k with h0 | h0
  · subst h0
    have hw0 : IntKind.i64.wrap 0 = 0 := rfl
    have hf0 : ∀ W, (Builtin.firstCells 1 0 (.string ⟨#[]⟩)).run P W = .ok #[] W := fun W => by rw [show (#[] : Array Value) = Builtin.zeroCells #[.int .u8 0] 0 from by simp [Builtin.zeroCells, Array.range], ← hf W]; rfl
    have hs0 : (⟨#[]⟩ : ByteArray).size = 0 := rfl
    simp [Builtin.append_, run_underlying ht, run_underlying htn, run_underlying hu, sizeOf, typeInfo, hi, hsize, hby, asInt, asIntOf, hw0, Builtin.lenOf, hs0, hf0, hlc]
  · have hk0 : k ≠ 0 := by omega
    by_cases hn : l + k ≤ c
    · simp [Builtin.append_, run_underlying ht, run_underlying htn, run_underlying hu, sizeOf, typeInfo, zeroValue, hi, hz, hsize, hby, asInt, asIntOf, hw, hneg, h48i, Builtin.lenOf, hs, hf, hn, hk0, Value.cells]
    · have h48' : ¬ (281474976710656 < Builtin.nextslicecap (l + k) c) := by
        have := growslice_fits (bytes := 1) (by omega : c < l + k) (by omega)
        omega
      simp [Builtin.append_, run_underlying ht, run_underlying htn, run_underlying hu, sizeOf, typeInfo, zeroValue, hi, hz, hsize, hby, asInt, asIntOf, hw, hneg, h48i, h48', h63', Builtin.lenOf, hs, hf, hn, hk0, Value.cells]
theorem wp_appZg {o : Oper} {a : Act} {w : World} {K : Act → World → Prop} {Q : Exit → Act → World → Prop} (w0 : World) (s x : Operand)
    (ho : o.op = .call { callee := .builtin .append, args := #[s, x], argTypes := #[24, 3] }) (hE : Ext w0 w)
    (A0 : Option Addr) (n c0 : Nat) (l : List UInt8) (hs : a.eval s = .slice A0 n c0) (hown : w.ownsRow w0.heap.size 5 1 (.slice A0 n c0) n (l.map Bv))
    (k : Nat) (kq : IntKind) (hx : a.eval x = .int kq k) (hlen : n + k ≤ 70368744177664)
    (h : ∀ A' c' w', w'.ownsRow w0.heap.size 5 1 (.slice A' (n + k) c') (n + k) ((l ++ List.replicate k 0).map Bv) → Ext w0 w' → w.grownBy w' (Value.slice A0 n c0).ownBlock → K (a.put o.dst (.slice A' (n + k) c')) w') :
    o.wp Tryd.prog a w K Q := by
  obtain ⟨i0, hi, hz0, hz1, hz2⟩ := info_parts byte_info
  have hB := Bytes.own hown
  obtain ⟨v', w2, hr, hown2, hg2, _⟩ := Lib.run_append_own_string (P := Tryd.prog) w w0.heap.size 24 9 o.type 5 i0 Tryd.underlying24 Tryd.underlying9 hi hz0 hz1 hz2 _ _ _ hown ⟨Array.replicate k 0⟩
    (by unfold maxLen; simp [ByteArray.size]; omega) (by simp [ByteArray.size]; omega) hE.size
  rw [← append_zeros_eq w 24 3 9 o.type 5 i0 kq .i64 Tryd.underlying24 Tryd.underlying3 Tryd.underlying9 hi hz0 hz1 hz2 A0 n c0 k hB.le (by omega)] at hr
  have hsz : (⟨Array.replicate k 0⟩ : ByteArray).size = k := by simp [ByteArray.size]
  have hsc : Lib.strCells ⟨Array.replicate k 0⟩ = (List.replicate k (0 : UInt8)).map Bv := by simp [Lib.strCells, Bv]
  rw [hsz, hsc, ← List.map_append] at hown2
  obtain ⟨A3, c3, rfl⟩ := own_form hown2
  exact Lib.wp_append_run w s x _ _ ho _ _ hs hx _ _ hr (h A3 c3 w2 hown2 (Ext.appended hE hown hg2) hg2)
theorem wpList_appZg {ops : Array Oper} {rest : List Oper} {o : Oper} {a : Act} {w : World} {Q : Exit → Act → World → Prop} (w0 : World) (s x : Operand) (hgd : o.guard = none)
    (ho : o.op = .call { callee := .builtin .append, args := #[s, x], argTypes := #[24, 3] }) (hE : Ext w0 w)
    (A0 : Option Addr) (n c0 : Nat) (l : List UInt8) (hs : a.eval s = .slice A0 n c0) (hown : w.ownsRow w0.heap.size 5 1 (.slice A0 n c0) n (l.map Bv))
    (k : Nat) (kq : IntKind) (hx : a.eval x = .int kq k) (hlen : n + k ≤ 70368744177664)
    (h : ∀ A' c' w', w'.ownsRow w0.heap.size 5 1 (.slice A' (n + k) c') (n + k) ((l ++ List.replicate k 0).map Bv) → Ext w0 w' → w.grownBy w' (Value.slice A0 n c0).ownBlock → wpList Tryd.prog ops Q rest (a.put o.dst (.slice A' (n + k) c')) w') :
    wpList Tryd.prog ops Q (o :: rest) a w :=
  wpList_plain hgd fun _ hK => wp_appZg w0 s x ho hE A0 n c0 l hs hown k kq hx hlen fun A' c' w' h1 h2 h3 => hK _ _ (h A' c' w' h1 h2 h3)
theorem wpList_appZ {ops : Array Oper} {rest : List Oper} {o : Oper} {a : Act} {w : World} {Q : Exit → Act → World → Prop} (w0 : World) (s x : Operand) (hgd : o.guard = none)
    (ho : o.op = .call { callee := .builtin .append, args := #[s, x], argTypes := #[24, 3] }) (hE : Ext w0 w)
    (A0 : Option Addr) (n c0 : Nat) (l : List UInt8) (hs : a.eval s = .slice A0 n c0) (hown : w.ownsRow w0.heap.size 5 1 (.slice A0 n c0) n (l.map Bv))
    (k : Nat) (kq : IntKind) (hx : a.eval x = .int kq k) (hlen : n + k ≤ 70368744177664)
    (h : ∀ A' c' w', w'.ownsRow w0.heap.size 5 1 (.slice A' (n + k) c') (n + k) ((l ++ List.replicate k 0).map Bv) → Ext w0 w' → wpList Tryd.prog ops Q rest (a.put o.dst (.slice A' (n + k) c')) w') :
    wpList Tryd.prog ops Q (o :: rest) a w :=
  wpList_appZg w0 s x hgd ho hE A0 n c0 l hs hown k kq hx hlen fun A' c' w' h1 h2 _ => h A' c' w' h1 h2
theorem own_far {w w' : World} {row : Option Nat} {base : Nat} {e : TypeId} {size n : Nat} {v : Value} {xs : List Value} (h : w.ownsRow base e size v n xs) (hg : w.grownBy w' row) (hr : ∀ r, row = some r → v.ownBlock ≠ some r) : w'.ownsRow base e size v n xs := by
  refine ⟨h.1, ?_⟩
  rcases h.2 with h0 | ⟨g, cap, cur, rfl, h2, h3, h4⟩
  · exact .inl h0
  · refine .inr ⟨g, cap, cur, rfl, h2, (hg.block g (Array.getElem?_eq_some_iff.1 h3).1 fun e => hr g e.symm rfl).trans h3, h4⟩
end Go.Proofs.YtiamcdbnhmlhaaaDoor

/- A region that draws its order, step by step: what only reads, and reads the same whatever is new, may be taken first; the rest comes in a chain. No program in sight. -/
import Derived.OrdersHeld
import Derived.RegionTactic
import Derived.Test.YtcdacnhggpfnaaaWords
namespace Go.Proofs.Ytcdacnhggpfnaaa
open Go.RowKit

section
variable {P : Program} {ops : Array Oper} {Q : Exit → Act → World → Prop}
theorem wpAnyH_strong {md : Region.Mode} {S1 S2 : World → Prop} (hS : ∀ w, S2 w → S1 w) : ∀ (fuel : Nat) (listed : Array Bool) (a : Act) (w : World), wpAnyH P md ops Q S2 fuel listed a w → wpAnyH P md ops Q S1 fuel listed a w
  | 0, _, _, _, h => h
  | fuel + 1, _, _, _, h => ⟨h.1, fun i hi => wpOp_mono (fun a' w' h' => ⟨hS _ h'.1, wpAnyH_strong hS fuel _ a' w' h'.2⟩) (h.2 i hi)⟩

theorem op_at {i : Nat} {oi : Oper} {rest : List Oper} (hi : ops.toList.drop i = oi :: rest) : ops[i]? = some oi := by
  have h : (ops.toList.drop i)[0]? = some oi := by rw [hi]; rfl
  rw [List.getElem?_drop, Nat.add_zero] at h
  simpa using h
/-- Whatever order is picked from here on, and nothing that was in the world B is turned by it. -/
def wpE (P : Program) (ops : Array Oper) (Q : Exit → Act → World → Prop) (B : World) (fuel : Nat) (listed : Array Bool) (a : Act) (w : World) : Prop := Ext B w → wpAnyH P .any ops Q (Ext B) fuel listed a w
theorem regE_start {id : Nat} {a : Act} {w : World} (hm : P.follows .mixedOrders = true) (h : wpE P ops Q w ops.size (Array.replicate ops.size false) a w.drew) : (Code.region id ops true).wp P Q a w :=
  wp_region_any hm (wpAny_of_held _ _ _ _ (h (Ext.refl w).drew))
theorem regE_start_at {id : Nat} {a : Act} {B w : World} (hB : Ext B w) (hm : P.follows .mixedOrders = true) (h : wpE P ops Q B ops.size (Array.replicate ops.size false) a w.drew) : (Code.region id ops true).wp P Q a w :=
  wp_region_any hm (wpAny_of_held _ _ _ _ (h hB.drew))
theorem regE_take {B : World} {i : Nat} {oi : Oper} {rest : List Oper} {v : Value} {fuel : Nat} {listed : Array Bool} {a : Act} {w : World} (hi : ops.toList.drop i = oi :: rest) (hs : Region.noSelect ops = true) (hf : Region.free .any ops listed i = true)
    (hr : (Region.ready .any ops listed).contains i = true) (hQ : ∀ c a w, Q (.panic c) (a.put oi.dst v) w → Q (.panic c) a w) (hw : Region.wanted oi (yielded ops a.tmps) = true)
    (hv : ∀ W, Ext B W → (execOp a.eval oi).run P W = .ok (.value v) W) (h : wpE P ops Q B fuel (listed.setIfInBounds i true) (a.put oi.dst v) w) : wpE P ops Q B (fuel + 1) listed a w :=
  fun hB => wpAnyH_take (op_at hi) hs hf hr hQ (.inl ⟨hw, hv⟩) hB (h hB)
theorem regE_skip {B : World} {i : Nat} {oi : Oper} {rest : List Oper} {fuel : Nat} {listed : Array Bool} {a : Act} {w : World} (hi : ops.toList.drop i = oi :: rest) (hs : Region.noSelect ops = true) (hf : Region.free .any ops listed i = true)
    (hr : (Region.ready .any ops listed).contains i = true) (hQ : ∀ c a w, Q (.panic c) (a.put oi.dst undef) w → Q (.panic c) a w) (hw : Region.wanted oi (yielded ops a.tmps) = false)
    (h : wpE P ops Q B fuel (listed.setIfInBounds i true) (a.put oi.dst undef) w) : wpE P ops Q B (fuel + 1) listed a w :=
  fun hB => wpAnyH_take (op_at hi) hs hf hr hQ (.inr ⟨hw, rfl⟩) hB (h hB)
theorem regE_do {B : World} {i : Nat} {oi : Oper} {rest : List Oper} {fuel : Nat} {listed : Array Bool} {a : Act} {w : World} (hi : ops.toList.drop i = oi :: rest) (hr : Region.ready .any ops listed = [i])
    (h : ∀ K : Act → World → Prop, Hid (∀ a' w', Ext B w' → wpE P ops Q B fuel (listed.setIfInBounds i true) a' w' → K a' w') → if Region.wanted oi (yielded ops a.tmps) = true then Oper.wp P oi a w K Q else K (a.put oi.dst undef) w) : wpE P ops Q B (fuel + 1) listed a w :=
  fun _ => wpAnyH_all hr (by simp) fun j hj => by
    obtain rfl : j = i := by simpa using hj
    exact wpOp_step (op_at hi) fun K hK => h K fun a' w' hE hR => hK a' w' ⟨hE, hR hE⟩
theorem regE_do2 {B : World} {i0 i1 : Nat} {o0 o1 : Oper} {r0 r1 : List Oper} {fuel : Nat} {listed : Array Bool} {a : Act} {w : World} (hr : Region.ready .any ops listed = [i0, i1]) (e0 : ops.toList.drop i0 = o0 :: r0) (e1 : ops.toList.drop i1 = o1 :: r1)
    (h0 : ∀ K : Act → World → Prop, Hid (∀ a' w', Ext B w' → wpE P ops Q B fuel (listed.setIfInBounds i0 true) a' w' → K a' w') → if Region.wanted o0 (yielded ops a.tmps) = true then Oper.wp P o0 a w K Q else K (a.put o0.dst undef) w)
    (h1 : ∀ K : Act → World → Prop, Hid (∀ a' w', Ext B w' → wpE P ops Q B fuel (listed.setIfInBounds i1 true) a' w' → K a' w') → if Region.wanted o1 (yielded ops a.tmps) = true then Oper.wp P o1 a w K Q else K (a.put o1.dst undef) w) : wpE P ops Q B (fuel + 1) listed a w :=
  fun _ => wpAnyH_all hr (by simp) fun j hj => by
    rcases (by simpa using hj : j = i0 ∨ j = i1) with rfl | rfl
    · exact wpOp_step (op_at e0) fun K hK => h0 K fun a' w' hE hR => hK a' w' ⟨hE, hR hE⟩
    · exact wpOp_step (op_at e1) fun K hK => h1 K fun a' w' hE hR => hK a' w' ⟨hE, hR hE⟩
theorem regE_do3 {B : World} {i0 i1 i2 : Nat} {o0 o1 o2 : Oper} {r0 r1 r2 : List Oper} {fuel : Nat} {listed : Array Bool} {a : Act} {w : World} (hr : Region.ready .any ops listed = [i0, i1, i2]) (e0 : ops.toList.drop i0 = o0 :: r0) (e1 : ops.toList.drop i1 = o1 :: r1) (e2 : ops.toList.drop i2 = o2 :: r2)
    (h0 : ∀ K : Act → World → Prop, Hid (∀ a' w', Ext B w' → wpE P ops Q B fuel (listed.setIfInBounds i0 true) a' w' → K a' w') → if Region.wanted o0 (yielded ops a.tmps) = true then Oper.wp P o0 a w K Q else K (a.put o0.dst undef) w)
    (h1 : ∀ K : Act → World → Prop, Hid (∀ a' w', Ext B w' → wpE P ops Q B fuel (listed.setIfInBounds i1 true) a' w' → K a' w') → if Region.wanted o1 (yielded ops a.tmps) = true then Oper.wp P o1 a w K Q else K (a.put o1.dst undef) w)
    (h2 : ∀ K : Act → World → Prop, Hid (∀ a' w', Ext B w' → wpE P ops Q B fuel (listed.setIfInBounds i2 true) a' w' → K a' w') → if Region.wanted o2 (yielded ops a.tmps) = true then Oper.wp P o2 a w K Q else K (a.put o2.dst undef) w) : wpE P ops Q B (fuel + 1) listed a w :=
  fun _ => wpAnyH_all hr (by simp) fun j hj => by
    rcases (by simpa using hj : j = i0 ∨ j = i1 ∨ j = i2) with rfl | rfl | rfl
    · exact wpOp_step (op_at e0) fun K hK => h0 K fun a' w' hE hR => hK a' w' ⟨hE, hR hE⟩
    · exact wpOp_step (op_at e1) fun K hK => h1 K fun a' w' hE hR => hK a' w' ⟨hE, hR hE⟩
    · exact wpOp_step (op_at e2) fun K hK => h2 K fun a' w' hE hR => hK a' w' ⟨hE, hR hE⟩
/-- From here on nothing that is there now is turned. -/
theorem regE_raise {B : World} {fuel : Nat} {listed : Array Bool} {a : Act} {w : World} (h : wpE P ops Q w fuel listed a w) : wpE P ops Q B fuel listed a w :=
  fun hB => wpAnyH_strong (fun _ hW => hB.trans hW) _ _ _ _ (h (Ext.refl w))
theorem regE_done {B : World} {fuel : Nat} {listed : Array Bool} {a : Act} {w : World} (hr : Region.ready .any ops listed = []) (h : Q .normal a w) : wpE P ops Q B fuel listed a w := fun _ => wpAnyH_done hr h fuel
/-- The same over whatever S is kept. -/
def wpS (P : Program) (ops : Array Oper) (Q : Exit → Act → World → Prop) (S : World → Prop) (fuel : Nat) (listed : Array Bool) (a : Act) (w : World) : Prop := S w → wpAnyH P .any ops Q S fuel listed a w
variable {S : World → Prop}
theorem regS_start {id : Nat} {a : Act} {w : World} (hS : S w.drew) (hm : P.follows .mixedOrders = true) (h : wpS P ops Q S ops.size (Array.replicate ops.size false) a w.drew) : (Code.region id ops true).wp P Q a w :=
  wp_region_any hm (wpAny_of_held _ _ _ _ (h hS))
theorem regS_take {i : Nat} {oi : Oper} {rest : List Oper} {v : Value} {fuel : Nat} {listed : Array Bool} {a : Act} {w : World} (hi : ops.toList.drop i = oi :: rest) (hs : Region.noSelect ops = true) (hf : Region.free .any ops listed i = true)
    (hr : (Region.ready .any ops listed).contains i = true) (hQ : ∀ c a w, Q (.panic c) (a.put oi.dst v) w → Q (.panic c) a w) (hw : Region.wanted oi (yielded ops a.tmps) = true)
    (hv : ∀ W, S W → (execOp a.eval oi).run P W = .ok (.value v) W) (h : wpS P ops Q S fuel (listed.setIfInBounds i true) (a.put oi.dst v) w) : wpS P ops Q S (fuel + 1) listed a w :=
  fun hB => wpAnyH_take (op_at hi) hs hf hr hQ (.inl ⟨hw, hv⟩) hB (h hB)
theorem regS_skip {i : Nat} {oi : Oper} {rest : List Oper} {fuel : Nat} {listed : Array Bool} {a : Act} {w : World} (hi : ops.toList.drop i = oi :: rest) (hs : Region.noSelect ops = true) (hf : Region.free .any ops listed i = true)
    (hr : (Region.ready .any ops listed).contains i = true) (hQ : ∀ c a w, Q (.panic c) (a.put oi.dst undef) w → Q (.panic c) a w) (hw : Region.wanted oi (yielded ops a.tmps) = false)
    (h : wpS P ops Q S fuel (listed.setIfInBounds i true) (a.put oi.dst undef) w) : wpS P ops Q S (fuel + 1) listed a w :=
  fun hB => wpAnyH_take (op_at hi) hs hf hr hQ (.inr ⟨hw, rfl⟩) hB (h hB)
theorem regS_do {i : Nat} {oi : Oper} {rest : List Oper} {fuel : Nat} {listed : Array Bool} {a : Act} {w : World} (hi : ops.toList.drop i = oi :: rest) (hr : Region.ready .any ops listed = [i])
    (h : ∀ K : Act → World → Prop, Hid (∀ a' w', S w' → wpS P ops Q S fuel (listed.setIfInBounds i true) a' w' → K a' w') → if Region.wanted oi (yielded ops a.tmps) = true then Oper.wp P oi a w K Q else K (a.put oi.dst undef) w) : wpS P ops Q S (fuel + 1) listed a w :=
  fun _ => wpAnyH_all hr (by simp) fun j hj => by
    obtain rfl : j = i := by simpa using hj
    exact wpOp_step (op_at hi) fun K hK => h K fun a' w' hE hR => hK a' w' ⟨hE, hR hE⟩
/-- From here on something else, that is stronger, is kept. -/
theorem regS_raise {S' : World → Prop} {fuel : Nat} {listed : Array Bool} {a : Act} {w : World} (hS : S' w) (hSS : ∀ W, S' W → S W) (h : wpS P ops Q S' fuel listed a w) : wpS P ops Q S fuel listed a w :=
  fun _ => wpAnyH_strong hSS _ _ _ _ (h hS)
theorem regS_done {fuel : Nat} {listed : Array Bool} {a : Act} {w : World} (hr : Region.ready .any ops listed = []) (h : Q .normal a w) : wpS P ops Q S fuel listed a w := fun _ => wpAnyH_done hr h fuel
end
end Go.Proofs.Ytcdacnhggpfnaaa

/- A region that draws its order, in a round of a range over a function. No program in sight. -/
import Derived.Test.YthepndimhiieiaaReg
import Derived.OrdersIn
import Derived.RangeFuncCalls
import Derived.Deep.RegionHeld3
namespace Go.Proofs.Ythepndimhiieiaa
open Go.RowKit
section
variable {P : Program} {ops : Array Oper} {Q : Exit → Act → World → Prop}
theorem rows_wide {n : Nat} {P : Program} {row : String} {args : Array Value} {w : World} {R : Value → World → Prop} (h : Rows P row args w R) : RowsIn Fence.wide n P row args w R :=
  fun c cs _ => let ⟨v, w', r, s⟩ := h c cs; ⟨v, w', r, stepsIn_wide.2 s⟩
theorem op_wide {n : Nat} {o : Oper} {a : Act} {w : World} {K : Act → World → Prop} (h : o.wp P a w K Q) : o.wpIn Fence.wide n P a w K Q := by
  unfold Oper.wp at h
  unfold Oper.wpIn
  refine ⟨fun _ _ => trivial, ?_⟩
  have e : o.semAt Fence.wide.round a.eval = execOp a.eval o := rfl
  rw [e]
  generalize (execOp a.eval o).run P w = r at *
  cases r with
  | ok x w' =>
    cases x with
    | value v => exact h
    | skip => exact h
    | defer d => exact h
    | enter f args => exact ⟨fun e => (by cases e), callsIn_wide.2 h⟩
    | row row args => exact ⟨fun e => (by cases e), rows_wide h⟩
    | round l f tmps assign body => exact h.elim
    | _ => exact h.elim
  | halt x w' => cases x <;> exact h
def noDefer (o : Oper) : Bool := match o.op with
  | .defer _ => false
  | _ => true
theorem op_round {F : Fence} {n l : Nat} {o : Oper} {a : Act} {w : World} {K : Act → World → Prop} (hro : F.round = none) (hd : noDefer o = true) (h : o.wpIn F n P a w K Q) : o.wpIn (F.inRound l) n P a w K Q := by
  have e : o.semAt (F.inRound l).round a.eval = o.semAt F.round a.eval := by
    rw [Fence.inRound_round, hro, Oper.semAt_none]
    refine Oper.semAt_eq _ _ _ fun c hc => ?_
    simp [noDefer, hc] at hd
  unfold Oper.wpIn at *
  refine ⟨h.1, ?_⟩
  rw [e]
  have h2 := h.2
  generalize (o.semAt F.round a.eval).run P w = r at *
  cases r with
  | ok x w' => cases x <;> exact h2
  | halt x w' => cases x <;> exact h2
theorem any_round {F : Fence} {n l : Nat} {md : Region.Mode} (hro : F.round = none) (hd : ∀ (i : Nat) (o : Oper), ops[i]? = some o → noDefer o = true) : ∀ (fuel : Nat) (listed : Array Bool) (a : Act) (w : World), wpAnyIn F n P md ops Q fuel listed a w → wpAnyIn (F.inRound l) n P md ops Q fuel listed a w
  | 0, _, _, _, h => h
  | fuel + 1, listed, a, w, h => ⟨h.1, fun i hi => by
      have h1 := wpOpIn_mono (fun a' w' h' => any_round (l := l) hro hd fuel _ a' w' h') (h.2 i hi)
      revert h1
      unfold wpOpIn
      cases ho : ops[i]? with
      | none => exact fun h1 => h1
      | some o =>
        intro h1
        simp only [] at h1 ⊢
        split
        · rename_i hw
          simp only [hw, if_true] at h1
          exact op_round hro (hd i o ho) h1
        · rename_i hw
          simp only [hw] at h1
          exact h1⟩
/-- Whatever order is picked from here on, in a round. -/
def wpI (P : Program) (ops : Array Oper) (Q : Exit → Act → World → Prop) (n fuel : Nat) (listed : Array Bool) (a : Act) (w : World) : Prop := wpAnyIn Fence.wide n P .any ops Q fuel listed a w
theorem regI_start {id n l : Nat} {a : Act} {w : World} (hm : P.follows .mixedOrders = true) (hd : ops.all noDefer = true) (h : wpI P ops (NoPanic Q) n ops.size (Array.replicate ops.size false) a w.drew) : (Code.region id ops true).wpIn (Fence.wide.inRound l) n P Q a w :=
  wpIn_mono (Q := NoPanic Q) (wpIn_region_any hm (any_round rfl (fun _ o ho => (Array.all_eq_true_iff_forall_mem.1 hd) o (Array.mem_of_getElem? ho)) _ _ _ _ h)) NoPanic.imp
theorem regI_take {i n : Nat} {oi : Oper} {rest : List Oper} {v : Value} {fuel : Nat} {listed : Array Bool} {a : Act} {w : World} (hi : ops.toList.drop i = oi :: rest) (hs : Region.noSelect ops = true) (hf : Region.free .any ops listed i = true)
    (hr : (Region.ready .any ops listed).contains i = true) (hQ : ∀ c a w, Q (.panic c) (a.put oi.dst v) w → Q (.panic c) a w) (hw : Region.wanted oi (yielded ops a.tmps) = true) (hab : ∀ w, oi.about P w a.eval = none)
    (hv : ∀ W, (execOp a.eval oi).run P W = .ok (.value v) W) (h : wpI P ops Q n fuel (listed.setIfInBounds i true) (a.put oi.dst v) w) : wpI P ops Q n (fuel + 1) listed a w :=
  wpAnyIn_take rfl (op_at hi) hs hf hr hQ ⟨.inl ⟨hw, hv⟩, hab⟩ h
theorem regI_do {i n : Nat} {oi : Oper} {rest : List Oper} {fuel : Nat} {listed : Array Bool} {a : Act} {w : World} (hr : Region.ready .any ops listed = [i]) (hi : ops.toList.drop i = oi :: rest) (hw : Region.wanted oi (yielded ops a.tmps) = true)
    (h : ∀ K : Act → World → Prop, Hid (∀ a' w', wpI P ops Q n fuel (listed.setIfInBounds i true) a' w' → K a' w') → Oper.wp P oi a w K Q) : wpI P ops Q n (fuel + 1) listed a w :=
  wpAnyIn_all hr (by simp) fun j hj => by
    obtain rfl : j = i := by simpa using hj
    exact wpOpIn_step (op_at hi) fun K hK => by rw [if_pos hw]; exact op_wide (h K hK)
theorem regI_do2 {i0 i1 n : Nat} {o0 o1 : Oper} {r0 r1 : List Oper} {fuel : Nat} {listed : Array Bool} {a : Act} {w : World} (hr : Region.ready .any ops listed = [i0, i1]) (e0 : ops.toList.drop i0 = o0 :: r0) (e1 : ops.toList.drop i1 = o1 :: r1) (w0 : Region.wanted o0 (yielded ops a.tmps) = true) (w1 : Region.wanted o1 (yielded ops a.tmps) = true)
    (h0 : ∀ K : Act → World → Prop, Hid (∀ a' w', wpI P ops Q n fuel (listed.setIfInBounds i0 true) a' w' → K a' w') → Oper.wp P o0 a w K Q)
    (h1 : ∀ K : Act → World → Prop, Hid (∀ a' w', wpI P ops Q n fuel (listed.setIfInBounds i1 true) a' w' → K a' w') → Oper.wp P o1 a w K Q) : wpI P ops Q n (fuel + 1) listed a w :=
  wpAnyIn_all hr (by simp) fun j hj => by
    rcases (by simpa using hj : j = i0 ∨ j = i1) with rfl | rfl
    · exact wpOpIn_step (op_at e0) fun K hK => by rw [if_pos w0]; exact op_wide (h0 K hK)
    · exact wpOpIn_step (op_at e1) fun K hK => by rw [if_pos w1]; exact op_wide (h1 K hK)
theorem regI_done {n : Nat} {fuel : Nat} {listed : Array Bool} {a : Act} {w : World} (hr : Region.ready .any ops listed = []) (h : Q .normal a w) : wpI P ops Q n fuel listed a w := wpAnyIn_done hr h fuel
end
end Go.Proofs.Ythepndimhiieiaa

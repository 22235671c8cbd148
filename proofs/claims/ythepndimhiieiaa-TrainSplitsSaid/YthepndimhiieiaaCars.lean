/- Lists of slices of bytes that a call has made: append to them. -/
import Derived.Test.YthepndimhiieiaaElsIn
import Derived.Test.YthepndimhiieiaaBytes
namespace Go.Proofs.Ythepndimhiieiaa
open Go.RowKit
abbrev Sl : Type := Option Addr × Nat × Nat
def Sl.v (x : Sl) : Value := .slice x.1 x.2.1 x.2.2
def eS : Enc Sl := ⟨fun x => [x.v], 1, fun _ => rfl, by decide, by intro x u hu; simp at hu; subst hu; rfl⟩
theorem eS_info : (Try.prog.info? 25).map (fun i => (i.zero, i.size, i.bytes)) = some (some (.slice none 0 0), 1, 24) := by kernel_rfl
theorem tyS : Nonempty (Ty Try.prog eS 72 25) := by
  obtain ⟨i0, hi, hz0, hz1, hz2⟩ := info_parts eS_info
  exact ⟨⟨Try.underlying72, i0, _, hi, hz0, hz1, by omega, rfl⟩⟩
/-- A row of one type is no block of another's. -/
theorem own_types {w : World} {B B' : Nat} {e e' : TypeId} {s s' n n' : Nat} {v v' : Value} {xs xs' : List Value} (h : w.ownsRow B e s v n xs) (h' : w.ownsRow B' e' s' v' n' xs') (he : e ≠ e') (b : Nat) (hb : v.ownBlock = some b) : v'.ownBlock ≠ some b := by
  intro hb'
  rcases h.2 with ⟨rfl, _⟩ | ⟨g, cap, cur, rfl, _, hg, _⟩
  · simp [Value.ownBlock] at hb
  · rcases h'.2 with ⟨rfl, _⟩ | ⟨g', cap', cur', rfl, _, hg', _⟩
    · simp [Value.ownBlock] at hb'
    · simp [Value.ownBlock] at hb hb'
      subst hb hb'
      rw [hg] at hg'
      injection hg' with hg'
      injection hg' with _ h2 _
      exact he h2
theorem own_keep {w w' : World} {B : Nat} {e : TypeId} {s n : Nat} {v v0 v0' : Value} {xs : List Value} (h : w.ownsRow B e s v n xs) (hv : ∀ b, v.ownBlock = some b → v0.ownBlock ≠ some b) (hK : Keep w w' v0 v0') : w'.ownsRow B e s v n xs := by
  refine ⟨h.1, ?_⟩
  rcases h.2 with h0 | ⟨g, cap, cur, h1, h2, hg, h3⟩
  · exact .inl h0
  · have hlt : g < w.heap.size := Blk.lt (t := e) (cs := cur) hg
    have hne := hv g (by rw [h1]; rfl)
    exact .inr ⟨g, cap, cur, h1, h2, (hK g hlt hne).2.trans hg, h3⟩
/-- Cars: slices of bytes, each of them made by the call. -/
def Cars (w : World) (B : Nat) : List Sl → List (List UInt8) → Prop
  | [], [] => True
  | h :: hs, l :: ls => w.ownsRow B 5 1 h.v h.2.1 (l.map Bv) ∧ Cars w B hs ls
  | _, _ => False
theorem Cars.len {w : World} {B : Nat} {hs : List Sl} {ls : List (List UInt8)} (h : Cars w B hs ls) : hs.length = ls.length := by
  induction hs generalizing ls with
  | nil => cases ls with
    | nil => rfl
    | cons l ls => exact h.elim
  | cons x hs ih => cases ls with
    | nil => exact h.elim
    | cons l ls => simp [ih h.2]
theorem Cars.ext {w w' : World} {B : Nat} {hs : List Sl} {ls : List (List UInt8)} (h : Cars w B hs ls) (hE : Ext w w') : Cars w' B hs ls := by
  induction hs generalizing ls with
  | nil => cases ls with
    | nil => trivial
    | cons l ls => exact h.elim
  | cons x hs ih => cases ls with
    | nil => exact h.elim
    | cons l ls => exact ⟨own_ext h.1 hE, ih h.2⟩
theorem Cars.alloc {w : World} {B : Nat} {hs : List Sl} {ls : List (List UInt8)} (h : Cars w B hs ls) (o : Obj) : Cars (w.alloc o) B hs ls := h.ext ((Ext.refl w).alloc o)
theorem Cars.keep {w w' : World} {B B' s n : Nat} {v0 v0' : Value} {xs : List Value} {hs : List Sl} {ls : List (List UInt8)} (h : Cars w B hs ls) (h0 : w.ownsRow B' 25 s v0 n xs) (hK : Keep w w' v0 v0') : Cars w' B hs ls := by
  induction hs generalizing ls with
  | nil => cases ls with
    | nil => trivial
    | cons l ls => exact h.elim
  | cons x hs ih => cases ls with
    | nil => exact h.elim
    | cons l ls => exact ⟨own_keep h.1 (own_types h.1 h0 (by decide)) hK, ih h.2⟩
theorem Cars.snoc {w : World} {B : Nat} {hs : List Sl} {ls : List (List UInt8)} {x : Sl} {l : List UInt8} (h : Cars w B hs ls) (hx : w.ownsRow B 5 1 x.v x.2.1 (l.map Bv)) : Cars w B (hs ++ [x]) (ls ++ [l]) := by
  induction hs generalizing ls with
  | nil => cases ls with
    | nil => exact ⟨hx, trivial⟩
    | cons l ls => exact h.elim
  | cons y hs ih => cases ls with
    | nil => exact h.elim
    | cons l ls => exact ⟨h.1, ih h.2⟩
theorem Cars.at_ {w : World} {B : Nat} {hs : List Sl} {ls : List (List UInt8)} (h : Cars w B hs ls) (i : Nat) (hi : i < ls.length) : ∃ hj : i < hs.length, Bytes w hs[i].1 hs[i].2.1 hs[i].2.2 ls[i] := by
  induction hs generalizing ls i with
  | nil => cases ls with
    | nil => simp at hi
    | cons l ls => exact h.elim
  | cons y hs ih => cases ls with
    | nil => exact h.elim
    | cons l ls =>
      cases i with
      | zero => exact ⟨by simp, Bytes.own h.1⟩
      | succ i =>
        obtain ⟨h1, h2⟩ := ih h.2 i (by simpa using hi)
        exact ⟨by simpa using h1, by simpa using h2⟩
theorem Cars.slices {w : World} {A : Option Addr} {n c B : Nat} {hs : List Sl} {ls : List (List UInt8)} (hE : Els eS w A n c hs) (h : Cars w B hs ls) : Slices w A n c ls := by
  have hl := h.len
  refine ⟨hl.symm.trans hE.len, hE.le, hE.reach, fun i hi => ?_⟩
  obtain ⟨hj, hB⟩ := h.at_ i hi
  obtain ⟨g, o, rfl, hg, hc⟩ := hE.addr (by rw [← hE.len]; omega)
  refine ⟨⟨g, o, none⟩, hs[i].1, hs[i].2.1, hs[i].2.2, rfl, hg, ?_, hB⟩
  rw [add_base]
  have := hc i 0 (by rw [← hE.len]; exact hj) (by decide)
  rw [show i * eS.size + 0 = i from Nat.mul_one i] at this
  rw [this]
  rfl
theorem Slices.none_ (w : World) : Slices w none 0 0 [] := ⟨rfl, Nat.le_refl _, by omega, fun i hi => absurd hi (by simp)⟩
/-- One of them, read. -/
theorem Slices.get {w : World} {A : Option Addr} {n c : Nat} {ls : List (List UInt8)} (h : Slices w A n c ls) (h0 : 0 < n) : ∃ g o, A = some ⟨g, o, none⟩ ∧ g < w.heap.size ∧ ∀ i, ∀ hi : i < ls.length, ∃ Ai ni ci, w.cell? ⟨g, o + i, none⟩ = some (.slice Ai ni ci) ∧ Bytes w Ai ni ci ls[i] := by
  obtain ⟨⟨g, o, sp⟩, A0, n0, c0, rfl, hlt, hc, _⟩ := h.2.2.2 0 (by rw [h.1]; exact h0)
  have hs : sp = none := by simpa [Addr.add] using World.cell?_spot hc
  subst hs
  refine ⟨g, o, rfl, hlt, fun i hi => ?_⟩
  obtain ⟨ad, Ai, ni, ci, e, _, hc, hB⟩ := h.2.2.2 i hi
  injection e with e
  subst e
  rw [add_base] at hc
  exact ⟨Ai, ni, ci, hc, hB⟩
end Go.Proofs.Ythepndimhiieiaa

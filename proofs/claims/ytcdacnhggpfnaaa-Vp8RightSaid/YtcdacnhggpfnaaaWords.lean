/- Words on memory: a slice that reads as a list of bytes, and what is kept of it; plain lemmas on worlds. No condition. -/
import Derived.Below
import Derived.Calls
import Derived.Laws.OwnMore
import Derived.Deep.AppendLies
import Derived.Deep.Draws
import Derived.OwnWalk
import Derived.Laws.Rows
import Derived.Laws.MakeOwn
import Derived.RangeFuncOwn
import Derived.Lib.Hide
namespace Go.Proofs.Ytcdacnhggpfnaaa
open Go.RowKit

/-- A byte as a value. -/
def Bv (x : UInt8) : Value := .int .u8 (x.toNat : Int)
theorem Bv_def (x : UInt8) : Bv x = .int .u8 (x.toNat : Int) := rfl

theorem hide {p : Prop} (h : p) : Hid p := h

theorem block_of_add (a : Addr) (n : Nat) : (a.add n).block = a.block := by unfold Addr.add; split <;> rfl
theorem add_base (g i j : Nat) : (⟨g, i, none⟩ : Addr).add j = ⟨g, i + j, none⟩ := by
  unfold Addr.add
  by_cases h : j = 0 <;> simp [h]
theorem add_head (g j : Nat) : (⟨g, 0, none⟩ : Addr).add j = ⟨g, j, none⟩ := by rw [add_base, Nat.zero_add]
theorem add_of_add (a : Addr) (i j : Nat) : (a.add i).add j = a.add (i + j) := by
  unfold Addr.add
  by_cases hi : i = 0 <;> by_cases hj : j = 0 <;> simp [hi, hj, Nat.add_assoc]

/-- The slice at A, of n elements of one cell each, reads as the values xs; it lies below block B. -/
def Reads (w : World) (B size : Nat) (A : Option Addr) (n : Nat) (xs : List Value) : Prop :=
  xs.length = n * size ∧ (0 < n → ∃ ad, A = some ad ∧ ad.block < B ∧ ∀ j u, xs[j]? = some u → w.cell? (ad.add j) = some u)

section
variable {w w' : World} {B B' size n : Nat} {A : Option Addr} {xs : List Value}
theorem Reads.none_ : Reads w B size A 0 [] := ⟨by simp, fun h => absurd h (by omega)⟩
theorem Reads.at_ {k : Nat} (h : Reads w B 1 A n xs) (hk : k < n) : ∃ ad u, A = some ad ∧ ad.block < B ∧ xs[k]? = some u ∧ w.cell? (ad.add k) = some u := by
  obtain ⟨ad, e, hb, hc⟩ := h.2 (by omega)
  have hl : k < xs.length := by have := h.1; omega
  exact ⟨ad, xs[k], e, hb, List.getElem?_eq_getElem hl, hc k _ (List.getElem?_eq_getElem hl)⟩
theorem Reads.keep (h : Reads w B size A n xs) (hk : ∀ p : Addr, p.block < B → w'.cell? p = w.cell? p) : Reads w' B size A n xs :=
  ⟨h.1, fun hn => by
    obtain ⟨ad, e, hb, hc⟩ := h.2 hn
    exact ⟨ad, e, hb, fun j u hu => (hk _ (by rw [block_of_add]; exact hb)).trans (hc j u hu)⟩⟩
theorem Reads.more (h : Reads w B size A n xs) (hB : B ≤ B') : Reads w B' size A n xs :=
  ⟨h.1, fun hn => by
    obtain ⟨ad, e, hb, hc⟩ := h.2 hn
    exact ⟨ad, e, by omega, hc⟩⟩
theorem Reads.below (h : Reads w B size A n xs) (hb : Below B w w') : Reads w' B size A n xs := h.keep fun _ hp => hb.cell hp
theorem Reads.drew (h : Reads w B size A n xs) : Reads w.drew B size A n xs := h
theorem Reads.drewN (h : Reads w B size A n xs) (k : Nat) : Reads (w.drewN k) B size A n xs := h
theorem Reads.alloc (h : Reads w B size A n xs) (hB : B ≤ w.heap.size) (o : Obj) : Reads (w.alloc o) B size A n xs := h.keep fun p hp => World.cell?_alloc_lt w o p (by omega)
theorem Reads.setCell (h : Reads w B size A n xs) {p : Addr} (hB : B ≤ p.block) (u : Value) : Reads (w.setCell p u) B size A n xs :=
  h.keep fun q hq => World.cell?_setCell_other w p q u (fun e => by subst e; omega)
theorem Reads.grown (h : Reads w B size A n xs) {row : Option Nat} (hg : w.grownBy w' row) (hB : B ≤ w.heap.size) (hr : ∀ g, row = some g → B ≤ g) : Reads w' B size A n xs :=
  h.keep fun p hp => World.cell?_of_block (hg.block p.block (by omega) (fun e => by have := hr _ e.symm; omega))
theorem Reads.cut (h : Reads w B size A n xs) {k cap : Nat} (hk : k ≤ n) (hc : n ≤ cap) :
    Reads w B size (if cap = k then A else A.map (·.add (k * size))) (n - k) (xs.drop (k * size)) := by
  refine ⟨by rw [List.length_drop, h.1, Nat.sub_mul], fun hn => ?_⟩
  obtain ⟨ad, rfl, hb, hcell⟩ := h.2 (by omega)
  rw [if_neg (by omega)]
  refine ⟨ad.add (k * size), rfl, by rw [block_of_add]; exact hb, fun j u hu => ?_⟩
  rw [add_of_add]
  exact hcell _ u (by rw [← hu, List.getElem?_drop])
theorem Reads.of_own {base : Nat} {e : TypeId} {c : Nat} (h : w.ownsRow base e size (.slice A n c) n xs) : Reads w w.heap.size size A n xs := by
  refine ⟨h.1, fun hn => ?_⟩
  obtain ⟨g, cap, hv, _, hlt⟩ := h.form hn
  have hA : A = some ⟨g, 0, none⟩ := by injection hv
  subst hA
  exact ⟨_, rfl, hlt, h.cells (g := g) rfl⟩
end

/-- Block g is just the cells cs of element type t, none frozen. -/
def Blk (w : World) (g : Nat) (t : TypeId) (cs : Array Value) : Prop := w.heap[g]? = some (.cells cs t (0, 0))
section
variable {w w' : World} {g : Nat} {t : TypeId} {cs : Array Value}
theorem Blk.lt (h : Blk w g t cs) : g < w.heap.size := by
  rcases Nat.lt_or_ge g w.heap.size with hlt | hge
  · exact hlt
  · unfold Blk at h; rw [Array.getElem?_eq_none hge] at h; cases h
theorem Blk.cell (h : Blk w g t cs) (i : Nat) : w.cell? ⟨g, i, none⟩ = cs[i]? := cell_of_row w g i cs t (0, 0) h
theorem Blk.frozen (h : Blk w g t cs) (i : Nat) : w.frozen? ⟨g, i, none⟩ = false := by
  unfold Blk at h
  simp [World.frozen?, h]
theorem Blk.new (w : World) (t : TypeId) (cs : Array Value) : Blk (w.alloc (.cells cs t)) w.heap.size t cs := heap_alloc_new w _
theorem Blk.drew (h : Blk w g t cs) : Blk w.drew g t cs := h
theorem Blk.drewN (h : Blk w g t cs) (n : Nat) : Blk (w.drewN n) g t cs := h
theorem Blk.alloc (h : Blk w g t cs) (o : Obj) : Blk (w.alloc o) g t cs := (Below.heap_alloc w o g h.lt).trans h
theorem Blk.set_ (h : Blk w g t cs) (i : Nat) (u : Value) : Blk (w.setCell ⟨g, i, none⟩ u) g t (cs.setIfInBounds i u) := by
  unfold Blk at h ⊢
  simp [World.setCell, Array.getElem?_modify, h]
theorem Blk.far (h : Blk w g t cs) {p : Addr} (hp : g ≠ p.block) (u : Value) : Blk (w.setCell p u) g t cs := (Below.heap_setCell w p u g hp).trans h
theorem Blk.below {B : Nat} (h : Blk w g t cs) (hb : Below B w w') (hg : g < B) : Blk w' g t cs := (hb.block g hg).trans h
theorem Blk.grown {row : Option Nat} (h : Blk w g t cs) (hb : w.grownBy w' row) (hg : some g ≠ row) : Blk w' g t cs := (hb.block g h.lt hg).trans h
/-- A round's own books are no cells. -/
theorem Blk.kept {row : Option Nat} (h : Blk w g t cs) (hb : w.grownBy w' row) (hr : ∀ r, row = some r → ∃ o : Obj, w.heap[r]? = some o ∧ o.isCells = false) : Blk w' g t cs := by
  refine h.grown hb fun e => ?_
  obtain ⟨o, ho, hc⟩ := hr g e.symm
  unfold Blk at h
  rw [h] at ho
  injection ho with ho
  subst ho
  simp [Obj.isCells] at hc
end

/-- A row of bytes. -/
def Row (w : World) (g : Nat) (t : TypeId) (l : List UInt8) : Prop := Blk w g t (l.map Bv).toArray
section
variable {w w' : World} {g : Nat} {t : TypeId} {l : List UInt8}
theorem Row.cell (h : Row w g t l) {i : Nat} (hi : i < l.length) : w.cell? ⟨g, i, none⟩ = some (.int .u8 ((l[i]).toNat : Int)) := by
  rw [Blk.cell h i]
  simp [hi, Bv]
theorem Row.frozen (h : Row w g t l) (i : Nat) : w.frozen? ⟨g, i, none⟩ = false := Blk.frozen h i
theorem Row.set_ (h : Row w g t l) (i : Nat) (x : UInt8) : Row (w.setCell ⟨g, i, none⟩ (.int .u8 (x.toNat : Int))) g t (l.set i x) := by
  have h1 := Blk.set_ h i (Bv x)
  unfold Row
  rw [List.map_set]
  simpa [Bv] using h1
theorem Row.own {base : Nat} {e : TypeId} (h : Row w g e l) (hb : base ≤ g) (hl : l.length ≤ maxLen) : w.ownsRow base e 1 (.slice (some ⟨g, 0, none⟩) l.length l.length) l.length (l.map Bv) := by
  refine ⟨by simp, .inr ⟨g, l.length, (l.map Bv).toArray, rfl, hb, h, ?_⟩⟩
  simpa [List.take_of_length_le] using hl
end
theorem made_bytes (n : Nat) : madeCells #[.int .u8 0] n = Array.replicate n (Bv 0) := by
  have h := toList_madeCells_one (.int .u8 0) n
  rw [show Bv 0 = .int .u8 0 from rfl]
  apply Array.toList_inj.1
  rw [h, Array.toList_replicate]
theorem Row.zeros {w : World} {g : Nat} {t : TypeId} {n : Nat} (h : Blk w g t (Array.replicate n (Bv 0))) : Row w g t (List.replicate n 0) := by
  unfold Row
  rw [List.map_replicate]
  simpa using h

/-- w' is w, but for what is new: the one word on what a call does to the world. -/
def Ext (w w' : World) : Prop := Below w.heap.size w w'
section
variable {w w1 w2 : World}
theorem Ext.refl (w : World) : Ext w w := Below.refl _ _
theorem Ext.trans (h : Ext w w1) (h' : Ext w1 w2) : Ext w w2 := Below.trans h (Below.mono h' h.size)
theorem Ext.size (h : Ext w w1) : w.heap.size ≤ w1.heap.size := Below.size h
theorem Ext.drew (h : Ext w w1) : Ext w w1.drew := Below.drew h
theorem below_drewN {B : Nat} {a w : World} (h : Below B a w) (n : Nat) : Below B a (w.drewN n) := ⟨h.os, h.tape, h.output, h.size, h.block⟩
theorem Ext.drewN (h : Ext w w1) (n : Nat) : Ext w (w1.drewN n) := below_drewN h n
theorem Ext.alloc (h : Ext w w1) (o : Obj) : Ext w (w1.alloc o) := Below.alloc h h.size o
theorem Ext.setCell (h : Ext w w1) {p : Addr} (hp : w.heap.size ≤ p.block) (u : Value) : Ext w (w1.setCell p u) := Below.setCell h hp u
theorem Ext.below (h : Ext w w1) : Below w.heap.size w w1 := h
theorem Ext.cell (h : Ext w w1) {p : Addr} (hp : p.block < w.heap.size) : w1.cell? p = w.cell? p := Below.cell h hp
theorem Ext.frozen (h : Ext w w1) {p : Addr} (hp : p.block < w.heap.size) : w1.frozen? p = w.frozen? p := Below.frozen h hp
end

/-- The slice value '.slice A n c' reads as the bytes l, in w. -/
def Bytes (w : World) (A : Option Addr) (n c : Nat) (l : List UInt8) : Prop :=
  Reads w w.heap.size 1 A n (l.map Bv) ∧ l.length = n ∧ n ≤ c ∧ c ≤ 9223372036854775807
section
variable {w w' : World} {A : Option Addr} {ad : Addr} {n c : Nat} {l : List UInt8}
theorem Bytes.ext (h : Bytes w A n c l) (hb : Ext w w') : Bytes w' A n c l :=
  ⟨(h.1.below hb).more hb.size, h.2⟩
theorem Bytes.len (h : Bytes w A n c l) : l.length = n := h.2.1
theorem Bytes.le (h : Bytes w A n c l) : n ≤ c := h.2.2.1
theorem Bytes.reach (h : Bytes w A n c l) : c ≤ 9223372036854775807 := h.2.2.2
theorem Bytes.at_ (h : Bytes w A n c l) {k : Nat} (hk : k < n) : ∃ ad, A = some ad ∧ ad.block < w.heap.size ∧ w.cell? (ad.add k) = some (.int .u8 ((l[k]'(by have := h.2.1; omega)).toNat : Int)) := by
  obtain ⟨ad, u, e, hb, hx, hc⟩ := h.1.at_ hk
  refine ⟨ad, e, hb, ?_⟩
  rw [hc]
  have hl : k < l.length := by have := h.2.1; omega
  rw [List.getElem?_map, List.getElem?_eq_getElem hl] at hx
  simpa [Bv] using hx.symm
theorem Bytes.cell (h : Bytes w (some ad) n c l) {k : Nat} (hk : k < n) : w.cell? (ad.add k) = some (.int .u8 ((l[k]'(by have := h.2.1; omega)).toNat : Int)) := by
  obtain ⟨ad', e, _, hc⟩ := h.at_ hk
  injection e with e
  subst e
  exact hc
theorem Bytes.addr (h : Bytes w A n c l) (hn : 0 < n) : ∃ ad, A = some ad ∧ ad.block < w.heap.size := by
  obtain ⟨ad, e, hb, _⟩ := h.at_ hn
  exact ⟨ad, e, hb⟩
theorem Bytes.take (h : Bytes w A n c l) {m : Nat} (hm : m ≤ n) : Bytes w A m c (l.take m) := by
  refine ⟨⟨by simp [h.2.1]; omega, fun h0 => ?_⟩, by simp [h.2.1]; omega, by have := h.2.2.1; omega, h.2.2.2⟩
  obtain ⟨ad, e, hb, hc⟩ := h.1.2 (by omega)
  refine ⟨ad, e, hb, fun j u hu => hc j u ?_⟩
  rw [List.map_take, List.getElem?_take] at hu
  split at hu
  · exact hu
  · cases hu
theorem Bytes.dropIf (h : Bytes w A n c l) {k : Nat} (hk : k ≤ n) : Bytes w (if c = k then A else A.map (fun x => x.add k)) (n - k) (c - k) (l.drop k) := by
  have h1 := h.1.cut (k := k) (cap := c) hk h.2.2.1
  simp only [Nat.mul_one] at h1
  refine ⟨by rw [List.map_drop]; exact h1, by simp [h.2.1], by have := h.2.2.1; omega, by have := h.2.2.2; omega⟩
theorem Bytes.drop (h : Bytes w A n c l) {k : Nat} (hk : k ≤ n) : Bytes w (A.map (fun x => x.add k)) (n - k) (c - k) (l.drop k) := by
  have h1 := h.dropIf hk
  by_cases e : c = k
  · have hc := h.2.2.1
    have h0 : n - k = 0 := by omega
    rw [h0] at h1 ⊢
    have hl : l.drop k = [] := List.eq_nil_of_length_eq_zero (h1.2.1)
    rw [hl]
    exact ⟨⟨by simp, fun h => absurd h (by omega)⟩, rfl, h1.2.2⟩
  · rw [if_neg e] at h1
    exact h1
theorem Bytes.sub (h : Bytes w A n c l) {lo hi : Nat} (h1 : lo ≤ hi) (h2 : hi ≤ n) : Bytes w (A.map (fun x => x.add lo)) (hi - lo) (c - lo) ((l.drop lo).take (hi - lo)) :=
  (h.drop (k := lo) (by omega)).take (by omega)
theorem Bytes.subIf (h : Bytes w A n c l) {lo hi : Nat} (h1 : lo ≤ hi) (h2 : hi ≤ n) : Bytes w (if c = lo then A else A.map (fun x => x.add lo)) (hi - lo) (c - lo) ((l.drop lo).take (hi - lo)) :=
  (h.dropIf (k := lo) (by omega)).take (by omega)
theorem Bytes.alloc (h : Bytes w A n c l) (o : Obj) : Bytes (w.alloc o) A n c l := h.ext ((Ext.refl _).alloc o)
theorem Bytes.drew (h : Bytes w A n c l) : Bytes w.drew A n c l := h
theorem Bytes.drewN (h : Bytes w A n c l) (k : Nat) : Bytes (w.drewN k) A n c l := h
theorem Bytes.nil (w : World) : Bytes w none 0 0 [] := ⟨Reads.none_, rfl, Nat.le_refl _, by omega⟩
theorem Bytes.of_own {base : Nat} {e : TypeId} (h : w.ownsRow base e 1 (.slice A n c) n (l.map Bv)) (hn : n ≤ c) (hc : c ≤ 9223372036854775807) : Bytes w A n c l :=
  ⟨Reads.of_own h, by have := h.1; simpa using this, hn, hc⟩
end
end Go.Proofs.Ytcdacnhggpfnaaa

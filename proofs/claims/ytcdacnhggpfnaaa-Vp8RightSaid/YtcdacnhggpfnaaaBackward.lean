/- slices.Backward over bytes: its contract for every loop body that keeps the slice's cells readable. -/
import Derived.RangeFuncNested
import Derived.RangeFuncBound
import Derived.RangeFuncCalls
import Derived.RangeFuncLeaves
import Derived.Shelf.Abstract
import Derived.Shelf.RegionOpen
import Derived.WalkKit
import Derived.OwnWalkIn
import Derived.TacticsInMore
import Derived.LoopNIn
import Derived.LoopIn
import Derived.Test.YtcdacnhggpfnaaaChecked
import Derived.Test.YtcdacnhggpfnaaaWords
namespace Go.Proofs.Ytcdacnhggpfnaaa
open Go.RowKit Go.Shelf

attribute [local go_sem] Oper.semAt_some

/-- What a round keeps: what stood in the box of the slice; that its cells hold bytes. -/
def KpRow (Bs : Nat) (ad : Addr) (len : Nat) (W W' : World) : Prop :=
  (∀ v, W.cell? ⟨Bs, 0, none⟩ = some v → W'.cell? ⟨Bs, 0, none⟩ = some v) ∧
    ∀ j, j < len → (∃ y : Int, W.cell? (ad.add j) = some (.int .u8 y)) → ∃ y : Int, W'.cell? (ad.add j) = some (.int .u8 y)
theorem KpRow.trans {Bs : Nat} {ad : Addr} {len : Nat} {A B C : World} (h : KpRow Bs ad len A B) (h' : KpRow Bs ad len B C) : KpRow Bs ad len A C :=
  ⟨fun v hv => h'.1 v (h.1 v hv), fun j hj hy => h'.2 j hj (h.2 j hj hy)⟩
theorem KpRow.book {Bs : Nat} {ad : Addr} {len : Nat} (W : World) (l : Nat) (o o' : Obj) (hl : W.heap[l]? = some o) (ho : o.isCells = false) : KpRow Bs ad len W (W.putObj l o') :=
  ⟨fun _ hv => cell_kept hv (grownBy_putObj' W l o') (fun r e => by cases e; exact ⟨o, hl, ho⟩),
   fun _ _ ⟨y, hy⟩ => ⟨y, cell_kept hy (grownBy_putObj' W l o') (fun r e => by cases e; exact ⟨o, hl, ho⟩)⟩⟩

theorem down_step (len k : Nat) (h : k < len) : ((List.range len).drop (k + 1)).reverse ++ [k] = ((List.range len).drop k).reverse := by
  rw [← List.reverse_cons, ← List.getElem_cons_drop (i := k) (by simpa using h)]
  simp

/-- What a round is handed: an index below the length, a byte. -/
abbrev Down (len : Nat) : Type := { x : Nat × Int // x.1 < len }
def Down.idx {len : Nat} (x : Down len) : Nat := x.1.1
theorem Down.lt {len : Nat} (x : Down len) : x.idx < len := x.2

set_option maxRecDepth 100000 in
set_option maxHeartbeats 2000000 in
theorem backward1_in (F : Fence) (n : Nat) (h48 : F.fn 87) (hro : F.round = none) (hn : 1 ≤ n) (l Bs len cap : Nat) (ad : Addr) (hreach : len ≤ 9223372036854775807) (J Jx : List (Down len) → World → Prop)
    (hY : ∀ pre x W, J pre W → pre.length < len → YieldAt F (n - 1) Try.prog l #[.int .i64 (x.idx : Int), .int .u8 x.1.2] W fun e W' =>
      (e = .returned (.bool true) ∧ J (pre ++ [x]) W' ∧ KpRow Bs ad len W W') ∨ (e = .returned (.bool false) ∧ Jx (pre ++ [x]) W'))
    (W : World) (hBs : W.cell? ⟨Bs, 0, none⟩ = some (.slice (some ad) len cap)) (hc : ∀ j, j < len → ∃ y : Int, W.cell? (ad.add j) = some (.int .u8 y)) (h0 : J [] W) :
    CallsIn F n Try.prog 87 #[.func (.yield l) #[] #[], .pointer (some ⟨Bs, 0, none⟩)] W fun e W' => (∃ v, e = .returned v) ∧
      ((∃ ys, ys.map Down.idx = (List.range len).reverse ∧ J ys W') ∨ (∃ pre, Jx pre W')) := by
  refine callsIn_of_wp Try.func87 rfl h48 ?_ hro
  simp only [Try.ntmps87, List.size_toArray, List.length_cons, List.length_nil, Nat.reduceAdd, Nat.reduceSub, Array.replicate_succ, Array.replicate_zero, List.push_toArray, List.append_toArray, List.nil_append, List.cons_append]
  have HC := hide hc
  clear hc
  gi_wp2
  gi_loopw [3] (fun i wr => ∃ (k : Nat) (pre : List (Down len)), k ≤ len ∧ i = .int .i64 ((k : Int) - 1) ∧ pre.length = len - k ∧ pre.map Down.idx = ((List.range len).drop k).reverse ∧ J pre wr ∧ KpRow Bs ad len W wr)
    (fun i _ => (intOf i + 1).toNat)
  case atStart => exact ⟨len, [], Nat.le_refl _, rfl, by simp, by simp, h0, fun _ h => h, fun _ _ h => h⟩
  case round =>
    obtain ⟨k, pre, hk, rfl, hpl, hpre, hJs, hkp⟩ := hrel
    have hBs' := hkp.1 _ hBs
    by_cases h1 : 1 ≤ k
    · obtain ⟨j, rfl⟩ : ∃ j, k = j + 1 := ⟨k - 1, by omega⟩
      obtain ⟨y, hy0⟩ := hkp.2 j (by omega) (HC.out j (by omega))
      obtain ⟨fn, tmps, assign, body, hy, hR⟩ := hY pre ⟨(j, y), by omega⟩ wr hJs (by omega)
      dsimp only [Down.idx] at hy
      rw [show (((j + 1 : Nat) : Int) - 1) = (j : Int) from by omega]
      have HP := hide hpre
      have HL := hide hpl
      have HK := hide hkp
      clear hpre hpl hkp
      have hjl : j < len := by omega
      gi_wp2
      refine hR.mono ?_
      rintro e W3 (⟨rfl, hJ3, hk3⟩ | ⟨rfl, hJx3⟩)
      · gi_wp2
        go_roundw
        case rel => exact ⟨j, pre ++ [⟨(j, y), by omega⟩], by omega, rfl, by rw [List.length_append, HL.out]; simp; omega, by rw [List.map_append, HP.out]; exact down_step len j hjl, hJ3, HK.out.trans hk3⟩
        case measure => simp [intOf]
      · gi_wp2
        refine bodyPost_ret (results_none rfl _ _ _) rfl ?_
        exact ⟨⟨_, rfl⟩, .inr ⟨_, hJx3⟩⟩
    · obtain rfl : k = 0 := by omega
      have HP := hide hpre
      clear hpre hpl hkp
      gi_wp2
      go_end0
      exact ⟨⟨_, rfl⟩, .inl ⟨pre, by simpa using HP.out, hJs⟩⟩

set_option maxHeartbeats 1000000 in
theorem backward_in (F : Fence) (n : Nat) (h39 : F.fn 76) (hro : F.round = none) (a : Option Addr) (len cap : Nat) (w : World) :
    CallsIn F n Try.prog 76 #[.slice a len cap] w fun e w' => e = .returned (.func (.func 87) #[] #[.pointer (some ⟨w.heap.size, 0, none⟩)]) ∧ w.alloc (.cells #[.slice a len cap] 22) = w' := by
  refine callsIn_of_wp Try.func76 rfl h39 ?_ hro
  simp only [Try.ntmps76, List.size_toArray, List.length_cons, List.length_nil, Nat.reduceAdd, Nat.reduceSub, Array.replicate_succ, Array.replicate_zero, List.push_toArray, List.append_toArray, List.nil_append, List.cons_append]
  gi_wp2
  go_ret
  exact ⟨rfl, rfl⟩

theorem backward_stops (F : Fence) (n : Nat) (h48 : F.fn 87) (hro : F.round = none) (hn : 1 ≤ n) (Bs len cap : Nat) (ad : Addr) (hreach : len ≤ 9223372036854775807) (w : World) (hBs : Bs < w.heap.size) (hab : ad.block < w.heap.size)
    (hc : w.cell? ⟨Bs, 0, none⟩ = some (.slice (some ad) len cap)) (hI : ∀ j, j < len → ∃ y : Int, w.cell? (ad.add j) = some (.int .u8 y)) :
    SeqStopsK F n Try.prog 87 #[.pointer (some ⟨Bs, 0, none⟩)] (fun x : Down len => #[Value.int .i64 (x.idx : Int), .int .u8 x.1.2]) (KpRow Bs ad len) (fun ys => ys.map Down.idx = (List.range len).reverse) (fun _ => True) len w := fun l J Jx W hW _ _ hY h0 => by
  have hc' := (hW.cell (p := ⟨Bs, 0, none⟩) hBs).trans hc
  refine (backward1_in F n h48 hro hn l Bs len cap ad hreach J Jx hY W hc' (fun j hj => ?_) h0).mono ?_
  · obtain ⟨y, hy⟩ := hI j hj
    exact ⟨y, (hW.cell (p := ad.add j) (by rw [block_of_add]; exact hab)).trans hy⟩
  · rintro e W' ⟨he, ⟨ys, hys, hj⟩ | ⟨pre, hj⟩⟩
    · exact ⟨he, .inl ⟨_, hys, hj⟩⟩
    · exact ⟨he, .inr ⟨_, trivial, hj⟩⟩
end Go.Proofs.Ytcdacnhggpfnaaa

/- Package nack: the walks. -/
import Derived.Test.YtiamcdbnhmlhaaaDoorOctGP
import Derived.Test.YtiamcdbnhmlhaaaDoorAppB
import Derived.Test.YtiamcdbnhmlhaaaDoorStr
import Derived.Test.YtiamcdbnhmlhaaaDoorEls
import Derived.Test.YtiamcdbnhmlhaaaDoorReg
import Derived.Test.YtiamcdbnhmlhaaaDoorPlainNack
namespace Go.Proofs.YtiamcdbnhmlhaaaDoor
open Go.RowKit

def tab : List Nat := [0, 1, 28, 2, 29, 14, 24, 3, 30, 22, 20, 15, 25, 17, 4, 8, 31, 27, 13, 23, 21, 19, 16, 7, 26, 12, 18, 6, 11, 5, 10, 9]
/-- The table of math/bits, as it is laid. -/
def Tab (w : World) : Prop := 0 < w.heap.size ∧ ∀ j, j < 32 → w.cell? ⟨0, j, none⟩ = some (.int .u8 ((tab.getD j 0 : Nat) : Int))
theorem Tab.ext {w w' : World} (h : Tab w) (hE : Ext w w') : Tab w' :=
  ⟨by have := hE.size; have := h.1; omega, fun j hj => (hE.cell (p := ⟨0, j, none⟩) h.1).trans (h.2 j hj)⟩
theorem ofInt_u16 (a : Nat) (ha : a < 65536) : (BitVec.ofInt 16 (a : Int)).toNat = a := by
  rw [BitVec.ofInt_natCast, BitVec.toNat_ofNat]; exact Nat.mod_eq_of_lt (by omega)
theorem u16_and_nat (a b : Nat) (ha : a < 65536) (hb : b < 65536) : bits .and .u16 (a : Int) (b : Int) = ((a &&& b : Nat) : Int) := by
  have hx : a &&& b < 65536 := Nat.lt_of_le_of_lt Nat.and_le_left ha
  show IntKind.u16.wrap ((BitVec.ofInt 16 (a : Int) &&& BitVec.ofInt 16 (b : Int)).toNat : Int) = _
  rw [BitVec.toNat_and, ofInt_u16 a ha, ofInt_u16 b hb, IntKind.wrap_u16]
  omega
set_option maxRecDepth 100000 in
theorem tz_ok (m j : Nat) (h0 : 0 < m) (hm : m < 65536) (hj : j < 16) (hb : m &&& (65536 - m) = 2 ^ j) (w : World) (ht : Tab w) : Calls Tryd.prog 18 #[.int .u16 m] w fun e w' => e = .returned (.int .i64 j) ∧ w = w' := by
  have h1 : bits .and .u16 (m : Int) (IntKind.u16.wrap (-(m : Int))) = ((2 ^ j : Nat) : Int) := by
    rw [show IntKind.u16.wrap (-(m : Int)) = ((65536 - m : Nat) : Int) by rw [IntKind.wrap_u16]; omega, u16_and_nat _ _ hm (by omega), hb]
  have h2 : ∃ i, i < 32 ∧ tab.getD i 0 = j ∧ 2 ^ j * 125613361 % 4294967296 / 134217728 = i := by
    have : ∀ j, j < 16 → ∃ i, i < 32 ∧ tab.getD i 0 = j ∧ 2 ^ j * 125613361 % 4294967296 / 134217728 = i := by decide
    exact this j hj
  obtain ⟨i, hi, h3, h4⟩ := h2
  have hc := ht.2 i hi
  rw [h3] at hc
  have hneg : IntKind.u16.wrap (-(m : Int)) = ((65536 - m : Nat) : Int) := by rw [IntKind.wrap_u16]; omega
  obtain ⟨x, hx⟩ : ∃ x, 2 ^ j = x := ⟨_, rfl⟩
  rw [hx] at h1 h4
  have h5 : (x : Int) % 4294967296 * 125613361 % 4294967296 / 134217728 = (i : Int) := by
    have hx2 : x < 65536 := by rw [← hx]; exact Nat.lt_of_le_of_lt (Nat.pow_le_pow_right (by omega) (show j ≤ 15 by omega)) (by decide)
    rw [← h4, show (x : Int) % 4294967296 = x by omega]
    simp
  have hi2 : (i : Int) < 32 := by omega
  clear hx hb hneg h4
  go_enter Tryd.func18, Tryd.ntmps18
  go_wp2_with fail
  go_ret
  exact ⟨rfl, rfl⟩
def e16 : Enc UInt16 := ⟨fun x => [.int .u16 (x.toNat : Int)], 1, fun _ => rfl, by decide, by intro x u hu; simp at hu; subst hu; rfl⟩
def ePr : Enc Pr := ⟨fun p => [.int .u16 (p.1.toNat : Int), .int .u16 (p.2.toNat : Int)], 2, fun _ => rfl, by decide, by intro x u hu; simp at hu; rcases hu with rfl | rfl <;> rfl⟩
theorem e16_info : (Tryd.prog.info? 39).map (fun i => (i.zero, i.size, i.bytes)) = some (some (.int .u16 0), 1, 2) := by kernel_rfl
theorem ePr_info : (Tryd.prog.info? 41).map (fun i => (i.zero, i.size, i.bytes)) = some (some (.agg #[.int .u16 0, .int .u16 0]), 2, 4) := by kernel_rfl
theorem ty16 : Nonempty (Ty Tryd.prog e16 23 39) := by
  obtain ⟨i0, hi, hz0, hz1, hz2⟩ := info_parts e16_info
  exact ⟨⟨Tryd.underlying23, i0, _, hi, hz0, hz1, by omega, rfl⟩⟩
theorem tyPr : Nonempty (Ty Tryd.prog ePr 22 41) := by
  obtain ⟨i0, hi, hz0, hz1, hz2⟩ := info_parts ePr_info
  exact ⟨⟨Tryd.underlying22, i0, _, hi, hz0, hz1, by omega, rfl⟩⟩
theorem Els.pr {w : World} {A : Option Addr} {n c : Nat} {l : List Pr} (h : Els ePr w A n c l) (h0 : 0 < n) : ∃ g o, A = some ⟨g, o, none⟩ ∧ g < w.heap.size ∧ ∀ i, ∀ hi : i < l.length, w.cell? ⟨g, o + i * 2, none⟩ = some (.int .u16 (l[i].1.toNat : Int)) ∧ w.cell? ⟨g, o + i * 2 + 1, none⟩ = some (.int .u16 (l[i].2.toNat : Int)) := by
  obtain ⟨g, o, e, hg, hc⟩ := h.addr h0
  exact ⟨g, o, e, hg, fun i hi => ⟨hc i 0 (by rw [← h.len]; exact hi) (by decide), hc i 1 (by rw [← h.len]; exact hi) (by decide)⟩⟩
theorem Els.u16 {w : World} {A : Option Addr} {n c : Nat} {l : List UInt16} (h : Els e16 w A n c l) (h0 : 0 < n) : ∃ g o, A = some ⟨g, o, none⟩ ∧ g < w.heap.size ∧ ∀ i, ∀ hi : i < l.length, w.cell? ⟨g, o + i, none⟩ = some (.int .u16 (l[i].toNat : Int)) := by
  obtain ⟨g, o, e, hg, hc⟩ := h.addr h0
  exact ⟨g, o, e, hg, fun i hi => by have := hc i 0 (by rw [← h.len]; exact hi) (by decide); rwa [show i * e16.size + 0 = i from Nat.mul_one i] at this⟩
end Go.Proofs.YtiamcdbnhmlhaaaDoor

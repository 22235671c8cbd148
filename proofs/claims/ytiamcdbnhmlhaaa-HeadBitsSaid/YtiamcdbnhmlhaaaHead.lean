/- Package head: the walks. -/
import Derived.Test.YtiamcdbnhmlhaaaPlainHead
import Derived.Test.YtiamcdbnhmlhaaaOctB
import Derived.Test.YtiamcdbnhmlhaaaPlainOct2
import Derived.Test.YtiamcdbnhmlhaaaReg
import Derived.Test.YtiamcdbnhmlhaaaAppB
import Derived.Test.YtiamcdbnhmlhaaaElsIn
import Derived.BigQuiet
import Derived.Deep.QuietTactic
namespace Go.Proofs.Ytiamcdbnhmlhaaa
open Go.RowKit
theorem ret_boolH {a b : Bool} (h : a = true ↔ b = true) : Ending.returned (.bool a) = .returned (.bool b) := by rw [Bool.eq_iff_iff.2 h]
def e32 : Enc UInt32 := ⟨fun x => [.int .u32 (x.toNat : Int)], 1, fun _ => rfl, by decide, by intro x u hu; simp at hu; subst hu; rfl⟩
theorem e32_info : (Try.prog.info? 51).map (fun i => (i.zero, i.size, i.bytes)) = some (some (.int .u32 0), 1, 4) := by kernel_rfl
theorem ty32 : Nonempty (Ty Try.prog e32 52 51) := by
  obtain ⟨i0, hi, hz0, hz1, hz2⟩ := info_parts e32_info
  exact ⟨⟨Try.underlying52, i0, _, hi, hz0, hz1, by omega, rfl⟩⟩
theorem Els.u32 {w : World} {A : Option Addr} {n c : Nat} {l : List UInt32} (h : Els e32 w A n c l) (h0 : 0 < n) : ∃ g o, A = some ⟨g, o, none⟩ ∧ g < w.heap.size ∧ ∀ i, ∀ hi : i < l.length, w.cell? ⟨g, o + i, none⟩ = some (.int .u32 (l[i].toNat : Int)) := by
  obtain ⟨g, o, e, hg, hc⟩ := h.addr h0
  exact ⟨g, o, e, hg, fun i hi => by have := hc i 0 (by rw [← h.len]; exact hi) (by decide); rwa [show i * e32.size + 0 = i from Nat.mul_one i] at this⟩
theorem Blk.eight {w : World} {g : Nat} {t : TypeId} {a b c d e f k l : Value} (h : Blk w g t #[a, b, c, d, e, f, k, l]) :
    (w.cell? ⟨g, 0, none⟩ = some a ∧ w.cell? ⟨g, 1, none⟩ = some b ∧ w.cell? ⟨g, 2, none⟩ = some c ∧ w.cell? ⟨g, 3, none⟩ = some d ∧ w.cell? ⟨g, 4, none⟩ = some e ∧ w.cell? ⟨g, 5, none⟩ = some f ∧ w.cell? ⟨g, 6, none⟩ = some k ∧ w.cell? ⟨g, 7, none⟩ = some l) ∧
    (∀ i, w.frozen? ⟨g, i, none⟩ = false) ∧ g < w.heap.size :=
  ⟨⟨h.cell 0, h.cell 1, h.cell 2, h.cell 3, h.cell 4, h.cell 5, h.cell 6, h.cell 7⟩, h.frozen, h.lt⟩
set_option maxHeartbeats 1000000 in
theorem hright_any (h : Hd) (A : Option Addr) (n c : Nat) (w : World) : Calls Try.prog 33 #[.agg #[.bool h.pad, .bool h.ext, .bool h.mark, .int .i64 h.typ, .int .u16 (h.seq.toNat : Int), .int .u32 (h.time.toNat : Int), .int .u32 (h.ssrc.toNat : Int), .slice A n c]] w fun e w' => e = .returned (.bool (hRight h.typ n)) ∧ Ext w w' := by
  go_enter Try.func33, Try.ntmps33
  go_wp2
  all_goals go_ret
  all_goals exact ⟨ret_boolH (by simp [hRight]; try omega), (Ext.refl _).alloc _⟩
set_option maxHeartbeats 1000000 in
theorem hsize_any (h : Hd) (A : Option Addr) (n c : Nat) (w : World) (r : Bool) (hr : hRight h.typ n = r) : Calls Try.prog 30 #[.agg #[.bool h.pad, .bool h.ext, .bool h.mark, .int .i64 h.typ, .int .u16 (h.seq.toNat : Int), .int .u32 (h.time.toNat : Int), .int .u32 (h.ssrc.toNat : Int), .slice A n c]] w fun e w' => e = .returned (.int .i64 ((bit r (12 + 4 * n) : Nat) : Int)) ∧ Ext w w' := by
  have S := hide (fun W => hright_any h A n c W)
  rw [hr] at S
  have hn : r = true → n ≤ 15 := fun e => by rw [e] at hr; exact (hRight_iff.1 hr).2.2
  have hbx := Blk.new w 54 #[.bool h.pad, .bool h.ext, .bool h.mark, .int .i64 h.typ, .int .u16 (h.seq.toNat : Int), .int .u32 (h.time.toNat : Int), .int .u32 (h.ssrc.toNat : Int), .slice A n c]
  clear hr
  cases r
  · go_enter Try.func30, Try.ntmps30
    go_wp2_with fail
    refine (S.out _).mono ?_
    rintro e w1 ⟨rfl, hE⟩
    go_wp2_with fail
    go_ret
    exact ⟨rfl, ((Ext.refl _).alloc _).trans hE⟩
  · have hn := hn rfl
    have k1 : IntKind.i64.wrap (12 + 4 * (n : Int)) = ((bit true (12 + 4 * n) : Nat) : Int) := by rw [IntWalk.i64_in _ (by omega)]; simp [bit]
    go_enter Try.func30, Try.ntmps30
    go_wp2_with fail
    refine (S.out _).mono ?_
    rintro e w1 ⟨rfl, hE⟩
    obtain ⟨⟨u0, u1, u2, u3, u4, u5, u6, u7⟩, _, _⟩ := (hbx.below hE (by simp)).eight
    go_wp2_with fail
    go_ret
    refine ⟨?_, ((Ext.refl _).alloc _).trans hE⟩
    first
      | rfl
      | (congr 2; simp [bit])
def bI (b : Bool) (k : Int) : Int := if b then k else 0
theorem flag_any (b : Bool) (k : Int) (w : World) : Calls Try.prog 40 #[.bool b, .int .u8 k] w fun e w' => e = .returned (.int .u8 (bI b k)) ∧ w = w' := by
  cases b
  all_goals
    go_enter Try.func40, Try.ntmps40
    go_wp2_with fail
    go_ret
    exact ⟨rfl, rfl⟩
theorem four_any (x : UInt32) (w : World) : Calls Try.prog 41 #[.int .u32 (x.toNat : Int)] w fun e w' => ∃ A c, e = .returned (.slice A 4 c) ∧ Bytes w' A 4 c (be 4 x.toNat) ∧ Ext w w' := by
  have hx := x.toNat_lt
  have hp : putE x.toNat 4 = 0 := putE_of (by omega) (by omega) (by simpa using hx)
  have hl : (putL x.toNat 4).length = 4 := by rw [putL_ok hp]; exact be_length 4 _
  have S := hide (fun W => put_B x.toNat 4 W (by omega) (be 4 x.toNat) (putL_ok hp) 0 hp)
  have hbl := be_length 4 x.toNat
  obtain ⟨y, hy⟩ : ∃ y, be 4 x.toNat = y := ⟨_, rfl⟩
  rw [hy] at S hbl ⊢
  have HBL := hide hbl
  have hxi : (x.toNat : Int) < 4294967296 := by omega
  clear hy hbl hl hp
  go_enter Try.func41, Try.ntmps41
  go_wp2_with fail
  refine (S.out _).mono ?_
  rw [HBL.out]
  rintro e w1 ⟨A, c, rfl, hB, hE⟩
  go_wp2_with fail
  go_ret
  exact ⟨A, c, rfl, hB, hE⟩
theorem number_any (A : Option Addr) (n c : Nat) (b : List UInt8) (w : World) (hb : Bytes w A n c b) (h1 : 1 ≤ n) (h2 : n ≤ 8) : Calls Try.prog 43 #[.slice A n c] w fun e w' => e = .returned (.int .u32 ((UInt32.ofNat (val b)).toNat : Int)) ∧ w = w' := by
  have hlen := hb.len
  have hE : getE b.length 0 (n : Int) = 0 := getE_of (by omega) (by omega) (by omega) (by omega)
  have hV : getV b 0 (n : Int) = val b := by unfold getV; rw [if_pos hE]; simp [List.take_of_length_le, hlen]
  have S := hide (fun W h => get_B A n c b 0 n W h _ hV 0 hE)
  have hw : IntKind.u32.wrap (val b : Int) = ((UInt32.ofNat (val b)).toNat : Int) := by rw [IntKind.wrap_u32, UInt32.toNat_ofNat']; omega
  have hw2 : (val b : Int) % 4294967296 = ((UInt32.ofNat (val b)).toNat : Int) := by rw [UInt32.toNat_ofNat']; omega
  obtain ⟨v, hv⟩ : ∃ v, val b = v := ⟨_, rfl⟩
  obtain ⟨u, hu⟩ : ∃ u, (UInt32.ofNat (val b)).toNat = u := ⟨_, rfl⟩
  rw [hu] at hw hw2 ⊢
  rw [hv] at hw hw2 S
  clear hE hV hlen hv hu
  go_enter Try.func43, Try.ntmps43
  go_wp2_with fail
  refine (S.out _ hb).mono ?_
  rintro e w1 ⟨rfl, rfl⟩
  go_wp2_with fail
  go_ret
  refine ⟨?_, rfl⟩
  first
    | rfl
    | (congr 2)
end Go.Proofs.Ytiamcdbnhmlhaaa

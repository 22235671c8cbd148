/- The document's Same and Numbers of headers. -/
import Derived.Test.YtiamcdbnhmlhaaaHead
import Derived.Laws.StructEq
namespace Go.Proofs.Ytiamcdbnhmlhaaa
open Go.RowKit
theorem take_grow32 {α : Type} {l m : List α} {j : Nat} (h : l.take j = m.take j) (h1 : j < l.length) (h2 : j < m.length) (e : l[j] = m[j]) : l.take (j + 1) = m.take (j + 1) := by
  rw [List.take_succ_eq_append_getElem h1, List.take_succ_eq_append_getElem h2, h, e]
set_option maxRecDepth 100000 in
set_option maxHeartbeats 1000000 in
theorem rnumbers_any (A : Option Addr) (n c : Nat) (l : List UInt32) (A2 : Option Addr) (n2 c2 : Nat) (m : List UInt32) (w : World) (h : Els e32 w A n c l) (h2 : Els e32 w A2 n2 c2 m) (r : Bool) (hr : decide (l = m) = r) :
    Calls Try.prog 46 #[.slice A n c, .slice A2 n2 c2] w fun e w' => e = .returned (.bool r) ∧ Ext w w' := by
  have hlen := h.len
  have hlen2 := h2.len
  have hnc := h.le
  have hcm := h.reach
  by_cases hne : n = n2
  · subst hne
    go_enter Try.func46, Try.ntmps46
    go_wp2_with fail
    go_loopw [5] (fun i wr => ∃ (j : Nat), j ≤ n ∧ i = .int .i64 j ∧ l.take j = m.take j ∧ Ext w wr) (fun i _ => n - (intOf i).toNat)
    case atStart => exact ⟨0, Nat.zero_le _, rfl, rfl, Ext.refl _⟩
    case round =>
      obtain ⟨j, hj, rfl, htk, hE⟩ := hrel
      by_cases hlt : j < n
      · have hjl : j < l.length := by omega
        have hjm : j < m.length := by omega
        obtain ⟨g, o, rfl, hg, hcell⟩ := (h.ext hE).u32 (by omega)
        obtain ⟨g2, o2, rfl, hg2, hcell2⟩ := (h2.ext hE).u32 (by omega)
        have hc0 := hcell j hjl
        have hc1 := hcell2 j hjm
        have htg := take_grow32 htk hjl hjm
        have hback : l = m → l[j] = m[j] := fun e => by subst e; rfl
        have HT := hide htk
        generalize l[j] = x at hc0 htg hback
        generalize m[j] = y at hc1 htg hback
        clear hcell hcell2 htk
        have hlt2 : (j : Int) < (n : Int) := by omega
        by_cases hxy : x = y
        · have hb : ((x.toNat : Int) != (y.toNat : Int)) = false := by rw [hxy]; simp
          go_wp2_with fail
          go_quiet (fail)
          go_wp2_with fail
          go_roundw
          case rel => exact ⟨j + 1, by omega, by go_num, htg hxy, hE.drewN _⟩
          case measure => simp [intOf]; omega
        · have hb : ((x.toNat : Int) != (y.toNat : Int)) = true := by
            rw [bne_iff_ne]
            intro e
            exact hxy (UInt32.toNat_inj.1 (by omega))
          obtain rfl : false = r := by
            rw [← hr]; symm
            exact decide_eq_false fun e => hxy (hback e)
          go_wp2_with fail
          go_quiet (fail)
          go_wp2_with fail
          go_ret
          exact ⟨rfl, hE.drewN _⟩
      · obtain rfl : j = n := by omega
        obtain rfl : true = r := by
          rw [← hr]; symm
          rw [List.take_of_length_le (by omega), List.take_of_length_le (by omega)] at htk
          exact decide_eq_true htk
        clear htk
        go_wp2_with fail
        go_ret
        exact ⟨rfl, hE⟩
  · have hb : ((n : Int) != (n2 : Int)) = true := by rw [bne_iff_ne]; omega
    obtain rfl : false = r := by
      rw [← hr]; symm
      exact decide_eq_false fun e => hne (by rw [← hlen, ← hlen2, e])
    go_enter Try.func46, Try.ntmps46
    go_wp2_with fail
    go_ret
    exact ⟨rfl, Ext.refl _⟩
set_option maxRecDepth 100000 in
set_option maxHeartbeats 4000000 in
theorem rsame_any (a b : Hd) (A : Option Addr) (n c : Nat) (A2 : Option Addr) (n2 c2 : Nat) (w : World) (h : Els e32 w A n c a.csrc) (h2 : Els e32 w A2 n2 c2 b.csrc) (r : Bool) (hr : hSame a b = r) :
    Calls Try.prog 34 #[.agg #[.bool a.pad, .bool a.ext, .bool a.mark, .int .i64 a.typ, .int .u16 (a.seq.toNat : Int), .int .u32 (a.time.toNat : Int), .int .u32 (a.ssrc.toNat : Int), .slice A n c], .agg #[.bool b.pad, .bool b.ext, .bool b.mark, .int .i64 b.typ, .int .u16 (b.seq.toNat : Int), .int .u32 (b.time.toNat : Int), .int .u32 (b.ssrc.toNat : Int), .slice A2 n2 c2]] w fun e w' => e = .returned (.bool r) ∧ Ext w w' := by
  by_cases e0 : a.pad = b.pad
  case neg =>
    have f0 : (a.pad == b.pad) = false := beq_eq_false_iff_ne.2 e0
    obtain rfl : false = r := by rw [← hr]; symm; rw [Bool.eq_false_iff]; intro h; exact e0 (congrArg Hd.pad ((hSame_iff a b).1 h))
    clear hr e0
    go_enter Try.func34, Try.ntmps34
    go_wp2_with fail
    go_ret
    exact ⟨rfl, ((Ext.refl _).alloc _).alloc _⟩
  by_cases e1 : a.ext = b.ext
  case neg =>
    have f0 : (a.pad == b.pad) = true := by rw [e0]; simp
    have f1 : (a.ext == b.ext) = false := beq_eq_false_iff_ne.2 e1
    obtain rfl : false = r := by rw [← hr]; symm; rw [Bool.eq_false_iff]; intro h; exact e1 (congrArg Hd.ext ((hSame_iff a b).1 h))
    clear hr e0 e1
    go_enter Try.func34, Try.ntmps34
    go_wp2_with fail
    go_ret
    exact ⟨rfl, ((Ext.refl _).alloc _).alloc _⟩
  by_cases e2 : a.mark = b.mark
  case neg =>
    have f0 : (a.pad == b.pad) = true := by rw [e0]; simp
    have f1 : (a.ext == b.ext) = true := by rw [e1]; simp
    have f2 : (a.mark == b.mark) = false := beq_eq_false_iff_ne.2 e2
    obtain rfl : false = r := by rw [← hr]; symm; rw [Bool.eq_false_iff]; intro h; exact e2 (congrArg Hd.mark ((hSame_iff a b).1 h))
    clear hr e0 e1 e2
    go_enter Try.func34, Try.ntmps34
    go_wp2_with fail
    go_ret
    exact ⟨rfl, ((Ext.refl _).alloc _).alloc _⟩
  by_cases e3 : a.typ = b.typ
  case neg =>
    have f0 : (a.pad == b.pad) = true := by rw [e0]; simp
    have f1 : (a.ext == b.ext) = true := by rw [e1]; simp
    have f2 : (a.mark == b.mark) = true := by rw [e2]; simp
    have f3 : (a.typ == b.typ) = false := beq_eq_false_iff_ne.2 e3
    obtain rfl : false = r := by rw [← hr]; symm; rw [Bool.eq_false_iff]; intro h; exact e3 (congrArg Hd.typ ((hSame_iff a b).1 h))
    clear hr e0 e1 e2 e3
    go_enter Try.func34, Try.ntmps34
    go_wp2_with fail
    go_ret
    exact ⟨rfl, ((Ext.refl _).alloc _).alloc _⟩
  by_cases e4 : a.seq = b.seq
  case neg =>
    have f0 : (a.pad == b.pad) = true := by rw [e0]; simp
    have f1 : (a.ext == b.ext) = true := by rw [e1]; simp
    have f2 : (a.mark == b.mark) = true := by rw [e2]; simp
    have f3 : (a.typ == b.typ) = true := by rw [e3]; simp
    have f4 : ((a.seq.toNat : Int) == (b.seq.toNat : Int)) = false := beq_eq_false_iff_ne.2 (fun h => e4 (UInt16.toNat_inj.1 (by omega)))
    obtain rfl : false = r := by rw [← hr]; symm; rw [Bool.eq_false_iff]; intro h; exact e4 (congrArg Hd.seq ((hSame_iff a b).1 h))
    clear hr e0 e1 e2 e3 e4
    go_enter Try.func34, Try.ntmps34
    go_wp2_with fail
    go_ret
    exact ⟨rfl, ((Ext.refl _).alloc _).alloc _⟩
  by_cases e5 : a.time = b.time
  case neg =>
    have f0 : (a.pad == b.pad) = true := by rw [e0]; simp
    have f1 : (a.ext == b.ext) = true := by rw [e1]; simp
    have f2 : (a.mark == b.mark) = true := by rw [e2]; simp
    have f3 : (a.typ == b.typ) = true := by rw [e3]; simp
    have f4 : ((a.seq.toNat : Int) == (b.seq.toNat : Int)) = true := by rw [e4]; simp
    have f5 : ((a.time.toNat : Int) == (b.time.toNat : Int)) = false := beq_eq_false_iff_ne.2 (fun h => e5 (UInt32.toNat_inj.1 (by omega)))
    obtain rfl : false = r := by rw [← hr]; symm; rw [Bool.eq_false_iff]; intro h; exact e5 (congrArg Hd.time ((hSame_iff a b).1 h))
    clear hr e0 e1 e2 e3 e4 e5
    go_enter Try.func34, Try.ntmps34
    go_wp2_with fail
    go_ret
    exact ⟨rfl, ((Ext.refl _).alloc _).alloc _⟩
  by_cases e6 : a.ssrc = b.ssrc
  case neg =>
    have f0 : (a.pad == b.pad) = true := by rw [e0]; simp
    have f1 : (a.ext == b.ext) = true := by rw [e1]; simp
    have f2 : (a.mark == b.mark) = true := by rw [e2]; simp
    have f3 : (a.typ == b.typ) = true := by rw [e3]; simp
    have f4 : ((a.seq.toNat : Int) == (b.seq.toNat : Int)) = true := by rw [e4]; simp
    have f5 : ((a.time.toNat : Int) == (b.time.toNat : Int)) = true := by rw [e5]; simp
    have f6 : ((a.ssrc.toNat : Int) == (b.ssrc.toNat : Int)) = false := beq_eq_false_iff_ne.2 (fun h => e6 (UInt32.toNat_inj.1 (by omega)))
    obtain rfl : false = r := by rw [← hr]; symm; rw [Bool.eq_false_iff]; intro h; exact e6 (congrArg Hd.ssrc ((hSame_iff a b).1 h))
    clear hr e0 e1 e2 e3 e4 e5 e6
    go_enter Try.func34, Try.ntmps34
    go_wp2_with fail
    go_ret
    exact ⟨rfl, ((Ext.refl _).alloc _).alloc _⟩
  have f0 : (a.pad == b.pad) = true := by rw [e0]; simp
  have f1 : (a.ext == b.ext) = true := by rw [e1]; simp
  have f2 : (a.mark == b.mark) = true := by rw [e2]; simp
  have f3 : (a.typ == b.typ) = true := by rw [e3]; simp
  have f4 : ((a.seq.toNat : Int) == (b.seq.toNat : Int)) = true := by rw [e4]; simp
  have f5 : ((a.time.toNat : Int) == (b.time.toNat : Int)) = true := by rw [e5]; simp
  have f6 : ((a.ssrc.toNat : Int) == (b.ssrc.toNat : Int)) = true := by rw [e6]; simp
  have hr2 : decide (a.csrc = b.csrc) = r := by
    rw [← hr, Bool.eq_iff_iff, decide_eq_true_iff, hSame_iff]
    constructor
    · intro h
      obtain ⟨a1, a2, a3, a4, a5, a6, a7, a8⟩ := a
      obtain ⟨b1, b2, b3, b4, b5, b6, b7, b8⟩ := b
      dsimp only at *
      subst e0 e1 e2 e3 e4 e5 e6 h
      rfl
    · intro h; rw [h]
  have S := hide (fun W hW1 hW2 => rnumbers_any A n c a.csrc A2 n2 c2 b.csrc W hW1 hW2 r hr2)
  clear hr hr2 e0 e1 e2 e3 e4 e5 e6
  go_enter Try.func34, Try.ntmps34
  go_wp2_with fail
  refine (S.out _ ((h.alloc _).alloc _) ((h2.alloc _).alloc _)).mono ?_
  rintro e w1 ⟨rfl, hE⟩
  go_wp2_with fail
  go_ret
  exact ⟨rfl, (((Ext.refl _).alloc _).alloc _).trans hE⟩
end Go.Proofs.Ytiamcdbnhmlhaaa

/- vp8.Write of any descriptor; vp8.Canon: the walk. -/
import Derived.Test.YtcdacnhggpfnaaaVp8E
import Derived.Test.YtcdacnhggpfnaaaPlainVp8S
import Derived.Test.YtcdacnhggpfnaaaEq
namespace Go.Proofs.Ytcdacnhggpfnaaa
open Go.RowKit
theorem own_setV {w : World} {base : Nat} {e : TypeId} {A : Option Addr} {n c : Nat} {l : List UInt8} (k : Nat) (hk : k < n) (a : UInt8) (h : w.ownsRow base e 1 (.slice A n c) n (l.map Bv)) :
    ∃ g, A = some ⟨g, 0, none⟩ ∧ base ≤ g ∧ g < w.heap.size ∧ w.cell? ⟨g, k, none⟩ = some (Bv (l.getD k 0)) ∧ w.frozen? ⟨g, k, none⟩ = false ∧ (w.setCell ⟨g, k, none⟩ (Bv a)).ownsRow base e 1 (.slice A n c) n ((l.set k a).map Bv) := by
  have hlen := h.1
  have hB0 := Bytes.own h
  rcases h.2 with ⟨_, hx⟩ | ⟨g, cap, cur, hv, hb, hg, hn, hm, hs, ht⟩
  · omega
  · injection hv with hA _ hc
    subst hA hc
    have hB : Blk w g e cur := hg
    have h1 := hB0.cellAt k hk
    rw [Nat.zero_add] at h1
    refine ⟨g, rfl, hb, hB.lt, h1, hB.frozen k, by simpa using hlen, .inr ⟨g, c, _, rfl, hb, hB.set_ k _, hn, hm, by simpa using hs, ?_⟩⟩
    rw [Array.toList_setIfInBounds, List.take_set, ht, List.map_set]
def v8WL (d : V8) : List UInt8 := if v8Right d = true then v8Bytes d else []
def v8WE (d : V8) : Int := if v8Right d = true then 0 else 1
theorem v8write_B (d : V8) (w : World) (y : List UInt8) (hy : v8WL d = y) (N : Nat) (hN : y.length = N) (E : Int) (hE : v8WE d = E) : Calls Try.prog 19 #[.agg #[.bool d.alone, .bool d.start, .int .i64 d.part, .bool d.hasPic, .bool d.wide, .int .i64 d.pic, .bool d.hasLevel, .int .i64 d.level, .bool d.hasTid, .bool d.hasKey, .int .i64 d.tid, .bool d.sync, .int .i64 d.key]] w fun e w' => ∃ A' c', e = .returned (.tuple #[.slice A' N c', .int .i64 E]) ∧ Bytes w' A' N c' y ∧ Ext w w' := by
  unfold v8WL at hy
  unfold v8WE at hE
  cases hr : v8Right d
  · rw [hr] at hy hE
    simp only [Bool.false_eq_true, if_false] at hy hE
    subst hy hE
    obtain rfl : 0 = N := hN
    exact (v8write_no d w hr).mono fun e w' h => ⟨none, 0, h.1, Bytes.nil _, h.2⟩
  · rw [hr] at hy hE
    simp only [if_true] at hy hE
    subst hE
    exact (v8write_O d w hr y hy N hN).mono fun e w' ⟨A', c', h1, h2, h3⟩ => ⟨A', c', h1, Bytes.own h2, h3⟩
set_option maxRecDepth 100000 in
set_option maxHeartbeats 4000000 in
theorem v8canon_any (A : Option Addr) (n c : Nat) (b : List UInt8) (w : World) (hb : Bytes w A n c b) (hn : n ≤ 1000000) (r : Bool) (hr : vrC b = r) :
    Calls Try.prog 26 #[.slice A n c] w fun e w' => e = .returned (.bool r) ∧ Ext w w' := by
  obtain ⟨E, hE⟩ : ∃ E, vrE b = E := ⟨_, rfl⟩
  obtain ⟨d, hd⟩ : ∃ d, vrD b = d := ⟨_, rfl⟩
  obtain ⟨N, hN⟩ : ∃ N, vrN b = N := ⟨_, rfl⟩
  have S := hide (fun W h => v8read_any A n c b W h hn d hd N hN E hE)
  by_cases h0 : E = 0
  · subst h0
    obtain ⟨q1, q2, q3⟩ := v8_read hE
    rw [hd] at q1
    rw [hN] at q2 q3
    rw [hb.len] at q3
    obtain ⟨y, hy⟩ : ∃ y, v8Bytes d = y := ⟨_, rfl⟩
    obtain ⟨M, hM⟩ : ∃ M, y.length = M := ⟨_, rfl⟩
    have S2 := hide (fun W => v8write_B d W y (by unfold v8WL; rw [if_pos q1]; exact hy) M hM 0 (by unfold v8WE; rw [if_pos q1]))
    have hr2 : decide (y = b.take N) = r := by
      rw [← hr]
      unfold vrC
      rw [hd, hN, hy]
      exact decide_eq_decide.2 ⟨fun h => ⟨hE, h⟩, fun h => h.2⟩
    have S3 := hide (fun W A1 c1 A2 c2 h1 h2 => equal_any A1 M c1 y A2 N c2 (b.take N) W h1 h2 r hr2)
    obtain ⟨g, o, rfl, hg⟩ := hb.form (by omega)
    have hcc := hb.le
    have hreach := hb.reach
    clear hE hd hN hr hy hM hr2 q1
    go_enter Try.func26, Try.ntmps26
    go_wp2_with fail
    refine (S.out _ hb).mono ?_
    rintro e w1 ⟨rfl, hE⟩
    have hdx := Blk.new w1 45 #[.bool d.alone, .bool d.start, .int .i64 d.part, .bool d.hasPic, .bool d.wide, .int .i64 d.pic, .bool d.hasLevel, .int .i64 d.level, .bool d.hasTid, .bool d.hasKey, .int .i64 d.tid, .bool d.sync, .int .i64 d.key]
    obtain ⟨⟨x0, x1, x2, x3, x4, x5, x6, x7, x8, x9, x10, x11, x12⟩, _, _⟩ := hdx.thirteen
    have hE1 := hE.alloc (.cells #[.bool d.alone, .bool d.start, .int .i64 d.part, .bool d.hasPic, .bool d.wide, .int .i64 d.pic, .bool d.hasLevel, .int .i64 d.level, .bool d.hasTid, .bool d.hasKey, .int .i64 d.tid, .bool d.sync, .int .i64 d.key] 45)
    go_wp2_with fail
    clear x0 x1 x2 x3 x4 x5 x6 x7 x8 x9 x10 x11 x12 hdx
    refine (S2.out _).mono ?_
    rintro e w2 ⟨Ay, cy, rfl, hY, hE2⟩
    replace hE1 := hE1.trans hE2
    replace hb := hb.ext hE1
    have hP := hb.part (lo := 0) (hi := N) (m := N) (c' := c) (by omega) (by omega) rfl (by omega) hreach
    rw [List.drop_zero, Nat.add_zero] at hP
    go_wp2_with fail
    refine (S3.out _ _ _ _ _ hY hP).mono ?_
    rintro e w3 ⟨rfl, hE3⟩
    go_wp2_with fail
    go_ret
    exact ⟨rfl, hE1.trans hE3⟩
  · obtain rfl : false = r := by
      rw [← hr]
      exact (decide_eq_false fun h => h0 (by rw [← hE]; exact h.1)).symm
    have hne : (E != 0) = true := by rw [bne_iff_ne]; exact h0
    clear hE hd hN hr h0
    go_enter Try.func26, Try.ntmps26
    go_wp2_with fail
    refine (S.out _ hb).mono ?_
    rintro e w1 ⟨rfl, hE⟩
    go_wp2_with fail
    go_ret
    exact ⟨rfl, hE.alloc _⟩
end Go.Proofs.Ytcdacnhggpfnaaa

/- head.Read: the walk. -/
import Derived.Test.YtiamcdbnhmlhaaaHead
import Derived.Test.YtiamcdbnhmlhaaaBK
import Derived.Test.YtiamcdbnhmlhaaaChunk
import Derived.Test.YtiamcdbnhmlhaaaRegIn
import Derived.Test.YtiamcdbnhmlhaaaElsIn
import Derived.Deep.DeepCutAuto
namespace Go.Proofs.Ytiamcdbnhmlhaaa
open Go.RowKit Go.Shelf
attribute [local go_sem] Oper.semAt_some
set_option maxRecDepth 100000 in
set_option maxHeartbeats 1000000 in
theorem hread_short (A : Option Addr) (n c : Nat) (w : World) (h : n < 12) : Calls Try.prog 31 #[.slice A n c] w fun e w' => e = .returned (.tuple #[.agg #[.bool false, .bool false, .bool false, .int .i64 0, .int .u16 0, .int .u32 0, .int .u32 0, .slice none 0 0], .int .i64 0, .int .i64 2]) ∧ Ext w w' := by
  go_enter Try.func31, Try.ntmps31
  go_wp2_with fail
  exact bodyPost_ret (v := .tuple #[.agg #[.bool false, .bool false, .bool false, .int .i64 0, .int .u16 0, .int .u32 0, .int .u32 0, .slice none 0 0], .int .i64 0, .int .i64 2]) (by simp [results, Try.results31, go_sem]) rfl ⟨rfl, ((Ext.refl _).alloc _)⟩
set_option maxRecDepth 100000 in
set_option maxHeartbeats 1000000 in
theorem hread_version (g o n c : Nat) (b : List UInt8) (w : World) (hb : Bytes w (some ⟨g, o, none⟩) n c b) (h : 12 ≤ n) (hv : (b.getD 0 0).toNat / 64 ≠ 2) : Calls Try.prog 31 #[.slice (some ⟨g, o, none⟩) n c] w fun e w' => e = .returned (.tuple #[.agg #[.bool false, .bool false, .bool false, .int .i64 0, .int .u16 0, .int .u32 0, .int .u32 0, .slice none 0 0], .int .i64 0, .int .i64 3]) ∧ Ext w w' := by
  have q0 := (b.getD 0 0).toNat_lt
  have hc0 := (hb.alloc (.cells #[.bool false, .bool false, .bool false, .int .i64 0, .int .u16 0, .int .u32 0, .int .u32 0, .slice none 0 0] 54)).cellZero (by omega)
  obtain ⟨b0, h0⟩ : ∃ v, (b.getD 0 0).toNat = v := ⟨_, rfl⟩
  rw [h0] at hc0 hv q0
  have hne : ((b0 : Int) / 64 != 2) = true := by rw [bne_iff_ne]; omega
  have n0 : 0 < n := by omega
  clear h0
  go_enter Try.func31, Try.ntmps31
  go_wp2_with fail
  exact bodyPost_ret (v := .tuple #[.agg #[.bool false, .bool false, .bool false, .int .i64 0, .int .u16 0, .int .u32 0, .int .u32 0, .slice none 0 0], .int .i64 0, .int .i64 3]) (by simp [results, Try.results31, go_sem]) rfl ⟨rfl, ((Ext.refl _).alloc _)⟩
theorem and15 (x : Nat) (h : x < 256) : bits .and .u8 (x : Int) 15 = ((x % 16 : Nat) : Int) := by
  have h : ∀ x : Fin 256, bits .and .u8 (x.1 : Int) 15 = ((x.1 % 16 : Nat) : Int) := by decide +kernel
  exact h ⟨x, by omega⟩
theorem and_bits (x : Nat) (h : x < 256) : decide ((0 : Int) < bits .and .u8 (x : Int) 32) = decide (x / 32 % 2 = 1) ∧ decide ((0 : Int) < bits .and .u8 (x : Int) 16) = decide (x / 16 % 2 = 1) ∧ decide ((0 : Int) < bits .and .u8 (x : Int) 128) = decide (128 ≤ x) ∧ bits .and .u8 (x : Int) 127 = ((x % 128 : Nat) : Int) := by
  have h : ∀ x : Fin 256, decide ((0 : Int) < bits .and .u8 (x.1 : Int) 32) = decide (x.1 / 32 % 2 = 1) ∧ decide ((0 : Int) < bits .and .u8 (x.1 : Int) 16) = decide (x.1 / 16 % 2 = 1) ∧ decide ((0 : Int) < bits .and .u8 (x.1 : Int) 128) = decide (128 ≤ x.1) ∧ bits .and .u8 (x.1 : Int) 127 = ((x.1 % 128 : Nat) : Int) := by decide +kernel
  exact h ⟨x, by omega⟩
set_option maxRecDepth 100000 in
set_option maxHeartbeats 1000000 in
theorem hread_short2 (g o n c : Nat) (b : List UInt8) (w : World) (hb : Bytes w (some ⟨g, o, none⟩) n c b) (h : 12 ≤ n) (hv : (b.getD 0 0).toNat / 64 = 2) (hl : n < 12 + 4 * ((b.getD 0 0).toNat % 16)) : Calls Try.prog 31 #[.slice (some ⟨g, o, none⟩) n c] w fun e w' => e = .returned (.tuple #[.agg #[.bool false, .bool false, .bool false, .int .i64 0, .int .u16 0, .int .u32 0, .int .u32 0, .slice none 0 0], .int .i64 0, .int .i64 2]) ∧ Ext w w' := by
  have q0 := (b.getD 0 0).toNat_lt
  have hc0 := (hb.alloc (.cells #[.bool false, .bool false, .bool false, .int .i64 0, .int .u16 0, .int .u32 0, .int .u32 0, .slice none 0 0] 54)).cellZero (by omega)
  obtain ⟨b0, h0⟩ : ∃ v, (b.getD 0 0).toNat = v := ⟨_, rfl⟩
  rw [h0] at hc0 hv q0 hl
  have hne : ((b0 : Int) / 64 != 2) = false := by rw [bne_eq_false_iff_eq]; omega
  have n0 : 0 < n := by omega
  have k15 := and15 b0 q0
  obtain ⟨m, hm⟩ : ∃ m, b0 % 16 = m := ⟨_, rfl⟩
  rw [hm] at k15 hl
  have hm15 : m ≤ 15 := by omega
  have hlt : (n : Int) < 12 + 4 * (m : Int) := by omega
  clear h0 hm hv
  go_enter Try.func31, Try.ntmps31
  go_wp2_with fail
  exact bodyPost_ret (v := .tuple #[.agg #[.bool false, .bool false, .bool false, .int .i64 0, .int .u16 0, .int .u32 0, .int .u32 0, .slice none 0 0], .int .i64 0, .int .i64 2]) (by simp [results, Try.results31, go_sem]) rfl ⟨rfl, ((Ext.refl _).alloc _)⟩
theorem Blk.put8 {w : World} {g : Nat} {t : TypeId} {a b c d e f k l a' b' c' d' e' f' k' l' : Value} (h : Blk w g t #[a, b, c, d, e, f, k, l]) : Blk ((((((((w.setCell ⟨g, 0, none⟩ a').setCell ⟨g, 0 + 1, none⟩ b').setCell ⟨g, 0 + 2, none⟩ c').setCell ⟨g, 0 + 3, none⟩ d').setCell ⟨g, 0 + 4, none⟩ e').setCell ⟨g, 0 + 5, none⟩ f').setCell ⟨g, 0 + 6, none⟩ k').setCell ⟨g, 0 + 7, none⟩ l') g t #[a', b', c', d', e', f', k', l'] := by
  have := (((((((h.set_ 0 a').set_ 1 b').set_ 2 c').set_ 3 d').set_ 4 e').set_ 5 f').set_ 6 k').set_ 7 l'
  simpa using this
theorem Ext.put8 {w w1 : World} {g : Nat} {a' b' c' d' e' f' k' l' : Value} (h : Ext w w1) (hg : w.heap.size ≤ g) : Ext w ((((((((w1.setCell ⟨g, 0, none⟩ a').setCell ⟨g, 0 + 1, none⟩ b').setCell ⟨g, 0 + 2, none⟩ c').setCell ⟨g, 0 + 3, none⟩ d').setCell ⟨g, 0 + 4, none⟩ e').setCell ⟨g, 0 + 5, none⟩ f').setCell ⟨g, 0 + 6, none⟩ k').setCell ⟨g, 0 + 7, none⟩ l') :=
  (((((((h.setCell (p := ⟨g, 0, none⟩) hg a').setCell (p := ⟨g, 0 + 1, none⟩) hg b').setCell (p := ⟨g, 0 + 2, none⟩) hg c').setCell (p := ⟨g, 0 + 3, none⟩) hg d').setCell (p := ⟨g, 0 + 4, none⟩) hg e').setCell (p := ⟨g, 0 + 5, none⟩) hg f').setCell (p := ⟨g, 0 + 6, none⟩) hg k').setCell (p := ⟨g, 0 + 7, none⟩) hg l'
theorem Blk.far8 {w : World} {q g : Nat} {t : TypeId} {cs : Array Value} {a' b' c' d' e' f' k' l' : Value} (h : Blk w q t cs) (hg : q ≠ g) : Blk ((((((((w.setCell ⟨g, 0, none⟩ a').setCell ⟨g, 0 + 1, none⟩ b').setCell ⟨g, 0 + 2, none⟩ c').setCell ⟨g, 0 + 3, none⟩ d').setCell ⟨g, 0 + 4, none⟩ e').setCell ⟨g, 0 + 5, none⟩ f').setCell ⟨g, 0 + 6, none⟩ k').setCell ⟨g, 0 + 7, none⟩ l') q t cs :=
  (((((((h.far (p := ⟨g, 0, none⟩) hg a').far (p := ⟨g, 0 + 1, none⟩) hg b').far (p := ⟨g, 0 + 2, none⟩) hg c').far (p := ⟨g, 0 + 3, none⟩) hg d').far (p := ⟨g, 0 + 4, none⟩) hg e').far (p := ⟨g, 0 + 5, none⟩) hg f').far (p := ⟨g, 0 + 6, none⟩) hg k').far (p := ⟨g, 0 + 7, none⟩) hg l'
theorem number_N (A : Option Addr) (n c : Nat) (b : List UInt8) (w : World) (hb : Bytes w A n c b) (h1 : 1 ≤ n) (h2 : n ≤ 8) (v : Nat) (hv : (UInt32.ofNat (val b)).toNat = v) : Calls Try.prog 43 #[.slice A n c] w fun e w' => e = .returned (.int .u32 (v : Int)) ∧ w = w' := by
  subst hv
  exact number_any A n c b w hb h1 h2
theorem u16_of (v : Nat) : IntKind.u16.wrap ((UInt32.ofNat v).toNat : Int) = ((UInt16.ofNat v).toNat : Int) := by
  rw [IntKind.wrap_u16, UInt32.toNat_ofNat', UInt16.toNat_ofNat']
  omega
theorem heap_put8 {w : World} {g D : Nat} {a' b' c' d' e' f' k' l' : Value} (hg : D ≠ g) : ((((((((w.setCell ⟨g, 0, none⟩ a').setCell ⟨g, 0 + 1, none⟩ b').setCell ⟨g, 0 + 2, none⟩ c').setCell ⟨g, 0 + 3, none⟩ d').setCell ⟨g, 0 + 4, none⟩ e').setCell ⟨g, 0 + 5, none⟩ f').setCell ⟨g, 0 + 6, none⟩ k').setCell ⟨g, 0 + 7, none⟩ l').heap[D]? = w.heap[D]? := by
  rw [Below.heap_setCell _ _ _ _ hg, Below.heap_setCell _ _ _ _ hg, Below.heap_setCell _ _ _ _ hg, Below.heap_setCell _ _ _ _ hg, Below.heap_setCell _ _ _ _ hg, Below.heap_setCell _ _ _ _ hg, Below.heap_setCell _ _ _ _ hg, Below.heap_setCell _ _ _ _ hg]
theorem own_put8 {w : World} {g : Nat} {a' b' c' d' e' f' k' l' : Value} {base : Nat} {e : TypeId} {size n : Nat} {v : Value} {xs : List Value} (h : w.ownsRow base e size v n xs) (hg : v.ownBlock ≠ some g) : ((((((((w.setCell ⟨g, 0, none⟩ a').setCell ⟨g, 0 + 1, none⟩ b').setCell ⟨g, 0 + 2, none⟩ c').setCell ⟨g, 0 + 3, none⟩ d').setCell ⟨g, 0 + 4, none⟩ e').setCell ⟨g, 0 + 5, none⟩ f').setCell ⟨g, 0 + 6, none⟩ k').setCell ⟨g, 0 + 7, none⟩ l').ownsRow base e size v n xs :=
  own_set (own_set (own_set (own_set (own_set (own_set (own_set (own_set h hg a') hg b') hg c') hg d') hg e') hg f') hg k') hg l'
set_option maxRecDepth 100000 in
set_option maxHeartbeats 2000000 in
theorem hread_ok (g o n c : Nat) (b : List UInt8) (w : World) (hb : Bytes w (some ⟨g, o, none⟩) n c b) (h : 12 ≤ n) (hv : (b.getD 0 0).toNat / 64 = 2) (hl : 12 + 4 * ((b.getD 0 0).toNat % 16) ≤ n) : Calls Try.prog 31 #[.slice (some ⟨g, o, none⟩) n c] w fun e w' =>
    ∃ A' c', e = .returned (.tuple #[.agg #[.bool (hRaw b).pad, .bool (hRaw b).ext, .bool (hRaw b).mark, .int .i64 (hRaw b).typ, .int .u16 ((hRaw b).seq.toNat : Int), .int .u32 ((hRaw b).time.toNat : Int), .int .u32 ((hRaw b).ssrc.toNat : Int), .slice A' ((b.getD 0 0).toNat % 16 : Nat) c'], .int .i64 ((12 + 4 * ((b.getD 0 0).toNat % 16) : Nat) : Int), .int .i64 0]) ∧ Els e32 w' A' ((b.getD 0 0).toNat % 16) c' (hRaw b).csrc ∧ Ext w w' := by
  obtain ⟨T⟩ := ty32
  have hlen := hb.len
  have hnc := hb.le
  have hcm := hb.reach
  refine (callsIn_wide (n := 5)).1 ?_
  have q0 := (b.getD 0 0).toNat_lt
  have q1 := (b.getD 1 0).toNat_lt
  have F := hide (fun (W : World) (hW : Ext w W) => And.intro ((hb.ext hW).cellZero (by omega)) ((hb.ext hW).cellAt 1 (by omega)))
  have hP2 := hb.part (lo := 2) (hi := 4) (m := 2) (c' := c - 2) (by omega) (by omega) rfl (by omega) (by omega)
  have hP4 := hb.part (lo := 4) (hi := 8) (m := 4) (c' := c - 4) (by omega) (by omega) rfl (by omega) (by omega)
  have hP8 := hb.part (lo := 8) (hi := 12) (m := 4) (c' := c - 8) (by omega) (by omega) rfl (by omega) (by omega)
  have hraw : hRaw b = ⟨decide ((b.getD 0 0).toNat / 32 % 2 = 1), decide ((b.getD 0 0).toNat / 16 % 2 = 1), decide (128 ≤ (b.getD 1 0).toNat), (((b.getD 1 0).toNat % 128 : Nat) : Int), UInt16.ofNat (val ((b.drop 2).take 2)), UInt32.ofNat (val ((b.drop 4).take 4)), UInt32.ofNat (val ((b.drop 8).take 4)), cs ((b.getD 0 0).toNat % 16) (b.drop 12)⟩ := rfl
  rw [hraw]
  dsimp only
  clear hraw
  have e16 := u16_of (val ((b.drop 2).take 2))
  obtain ⟨n2, hn2⟩ : ∃ v, (UInt32.ofNat (val ((b.drop 2).take 2))).toNat = v := ⟨_, rfl⟩
  obtain ⟨n4, hn4⟩ : ∃ v, (UInt32.ofNat (val ((b.drop 4).take 4))).toNat = v := ⟨_, rfl⟩
  obtain ⟨n8, hn8⟩ : ∃ v, (UInt32.ofNat (val ((b.drop 8).take 4))).toNat = v := ⟨_, rfl⟩
  obtain ⟨s2, hs2⟩ : ∃ v, (UInt16.ofNat (val ((b.drop 2).take 2))).toNat = v := ⟨_, rfl⟩
  rw [hs2, hn2] at e16
  rw [hs2, hn4, hn8]
  have S2 := hide (fun W hW => number_N _ 2 _ _ W (hP2.ext hW) (by omega) (by omega) n2 hn2)
  have S4 := hide (fun W hW => number_N _ 4 _ _ W (hP4.ext hW) (by omega) (by omega) n4 hn4)
  have S8 := hide (fun W hW => number_N _ 4 _ _ W (hP8.ext hW) (by omega) (by omega) n8 hn8)
  have E16 := hide e16
  clear hP2 hP4 hP8 hn2 hn4 hn8 hs2 e16
  obtain ⟨b0, h0⟩ : ∃ v, (b.getD 0 0).toNat = v := ⟨_, rfl⟩
  obtain ⟨b1, h1⟩ : ∃ v, (b.getD 1 0).toNat = v := ⟨_, rfl⟩
  rw [h0] at q0 hv hl F ⊢
  rw [h1] at q1 F ⊢
  clear h0 h1
  have hne : ((b0 : Int) / 64 != 2) = false := by rw [bne_eq_false_iff_eq]; omega
  have n0 : 0 < n := by omega
  have n1 : (1 : Int) < (n : Int) := by omega
  have k15 := and15 b0 q0
  have k1 := (and_bits b0 q0).1
  have k2 := (and_bits b0 q0).2.1
  have k3 := (and_bits b1 q1).2.2.1
  have k4 := (and_bits b1 q1).2.2.2
  obtain ⟨m, hm⟩ : ∃ m, b0 % 16 = m := ⟨_, rfl⟩
  rw [hm] at k15 hl ⊢
  have hm15 : m ≤ 15 := by omega
  have hlt : ¬ ((n : Int) < 12 + 4 * (m : Int)) := by omega
  have hlt2 : 12 + 4 * (m : Int) ≤ (c : Int) := by omega
  have K1 := hide k1
  have K2 := hide k2
  have K3 := hide k3
  have k5 : IntKind.i64.wrap (bits .and .u8 (b1 : Int) 127) = ((b1 % 128 : Nat) : Int) := by rw [k4, IntWalk.i64_in _ (by omega)]
  have K4 := hide k5
  clear k1 k2 k3 k4 k5 hm hv
  have c1 : ¬ (c = 2) := by omega
  have c2 : ¬ (c = 4) := by omega
  have c3 : ¬ (c = 8) := by omega
  have c12 : 12 ≤ c := by omega
  have hc0 := (F.out (w.alloc (.cells #[.bool false, .bool false, .bool false, .int .i64 0, .int .u16 0, .int .u32 0, .int .u32 0, .slice none 0 0] 54)) ((Ext.refl w).alloc _)).1
  refine callsIn_of_wp_marks Try.func31 rfl trivial ?_ rfl
  simp only [Try.ntmps31, List.size_toArray, List.length_cons, List.length_nil, Nat.reduceAdd, Nat.reduceSub, Array.replicate_succ, Array.replicate_zero, List.push_toArray, List.append_toArray, List.nil_append, List.cons_append]
  have hz := Blk.new w 54 #[.bool false, .bool false, .bool false, .int .i64 0, .int .u16 0, .int .u32 0, .int .u32 0, .slice none 0 0]
  have hR0 := (Ext.refl w).alloc (.cells #[.bool false, .bool false, .bool false, .int .i64 0, .int .u16 0, .int .u32 0, .int .u32 0, .slice none 0 0] 54)
  gi_wp2
  generalize hgw : w.alloc (.cells #[.bool false, .bool false, .bool false, .int .i64 0, .int .u16 0, .int .u32 0, .int .u32 0, .slice none 0 0] 54) = w1 at *
  clear hgw hc0
  have f0 := fun W hW => (F.out W hW).1
  have f1 := fun W hW => (F.out W hW).2
  refine wpIn_wide.2 ?_
  refine wp_region_noPanic ?_
  refine regE_start_at (hR0) (by kernel_rfl) ?_
  have hR := (hR0).drew
  replace hz := hz.drew
  generalize hgw : (w1).drew = wr0 at *
  clear hgw
  refine regE_take (i := 0) (v := ?_) rfl (by kernel_rfl) (by kernel_rfl) (by kernel_rfl) (fun _ _ _ h => h) (by rfl) ?_ ?_
  rotate_left
  · intro W hW; go_simp; try with_reducible rfl
  simp only [Act.put, List.setIfInBounds_toArray, List.set_cons_zero, List.set_cons_succ]
  refine regE_take (i := 1) (v := ?_) rfl (by kernel_rfl) (by kernel_rfl) (by kernel_rfl) (fun _ _ _ h => h) (by rfl) ?_ ?_
  rotate_left
  · intro W hW; go_simp; try with_reducible rfl
  simp only [Act.put, List.setIfInBounds_toArray, List.set_cons_zero, List.set_cons_succ]
  refine regE_take (i := 2) (v := ?_) rfl (by kernel_rfl) (by kernel_rfl) (by kernel_rfl) (fun _ _ _ h => h) (by rfl) ?_ ?_
  rotate_left
  · intro W hW; go_simp; try with_reducible rfl
  simp only [Act.put, List.setIfInBounds_toArray, List.set_cons_zero, List.set_cons_succ]
  refine regE_take (i := 3) (v := ?_) rfl (by kernel_rfl) (by kernel_rfl) (by kernel_rfl) (fun _ _ _ h => h) (by rfl) ?_ ?_
  rotate_left
  · intro W hW; go_simp; try with_reducible rfl
  simp only [Act.put, List.setIfInBounds_toArray, List.set_cons_zero, List.set_cons_succ]
  refine regE_take (i := 4) (v := ?_) rfl (by kernel_rfl) (by kernel_rfl) (by kernel_rfl) (fun _ _ _ h => h) (by rfl) ?_ ?_
  rotate_left
  · intro W hW; go_simp; try with_reducible rfl
  simp only [Act.put, List.setIfInBounds_toArray, List.set_cons_zero, List.set_cons_succ]
  refine regE_take (i := 5) (v := ?_) rfl (by kernel_rfl) (by kernel_rfl) (by kernel_rfl) (fun _ _ _ h => h) (by rfl) ?_ ?_
  rotate_left
  · intro W hW; go_simp; try with_reducible rfl
  simp only [Act.put, List.setIfInBounds_toArray, List.set_cons_zero, List.set_cons_succ]
  refine regE_take (i := 6) (v := ?_) rfl (by kernel_rfl) (by kernel_rfl) (by kernel_rfl) (fun _ _ _ h => h) (by rfl) ?_ ?_
  rotate_left
  · intro W hW; go_simp; try with_reducible rfl
  simp only [Act.put, List.setIfInBounds_toArray, List.set_cons_zero, List.set_cons_succ]
  refine regE_take (i := 7) (v := ?_) rfl (by kernel_rfl) (by kernel_rfl) (by kernel_rfl) (fun _ _ _ h => h) (by rfl) ?_ ?_
  rotate_left
  · intro W hW; go_simp; try with_reducible rfl
  simp only [Act.put, List.setIfInBounds_toArray, List.set_cons_zero, List.set_cons_succ]
  refine regE_take (i := 8) (v := ?_) rfl (by kernel_rfl) (by kernel_rfl) (by kernel_rfl) (fun _ _ _ h => h) (by rfl) ?_ ?_
  rotate_left
  · intro W hW; go_simp; try with_reducible rfl
  simp only [Act.put, List.setIfInBounds_toArray, List.set_cons_zero, List.set_cons_succ]
  refine regE_take (i := 9) (v := ?_) rfl (by kernel_rfl) (by kernel_rfl) (by kernel_rfl) (fun _ _ _ h => h) (by rfl) ?_ ?_
  rotate_left
  · intro W hW; go_simp; try with_reducible rfl
  simp only [Act.put, List.setIfInBounds_toArray, List.set_cons_zero, List.set_cons_succ]
  refine regE_take (i := 10) (v := ?_) rfl (by kernel_rfl) (by kernel_rfl) (by kernel_rfl) (fun _ _ _ h => h) (by rfl) ?_ ?_
  rotate_left
  · intro W hW; go_simp; try with_reducible rfl
  simp only [Act.put, List.setIfInBounds_toArray, List.set_cons_zero, List.set_cons_succ]
  refine regE_take (i := 11) (v := ?_) rfl (by kernel_rfl) (by kernel_rfl) (by kernel_rfl) (fun _ _ _ h => h) (by rfl) ?_ ?_
  rotate_left
  · intro W hW; go_simp; try with_reducible rfl
  simp only [Act.put, List.setIfInBounds_toArray, List.set_cons_zero, List.set_cons_succ]
  refine regE_take (i := 12) (v := ?_) rfl (by kernel_rfl) (by kernel_rfl) (by kernel_rfl) (fun _ _ _ h => h) (by rfl) ?_ ?_
  rotate_left
  · intro W hW; go_simp; try with_reducible rfl
  simp only [Act.put, List.setIfInBounds_toArray, List.set_cons_zero, List.set_cons_succ]
  refine regE_take (i := 13) (v := ?_) rfl (by kernel_rfl) (by kernel_rfl) (by kernel_rfl) (fun _ _ _ h => h) (by rfl) ?_ ?_
  rotate_left
  · intro W hW; go_simp; try with_reducible rfl
  simp only [Act.put, List.setIfInBounds_toArray, List.set_cons_zero, List.set_cons_succ]
  refine regE_take (i := 14) (v := ?_) rfl (by kernel_rfl) (by kernel_rfl) (by kernel_rfl) (fun _ _ _ h => h) (by rfl) ?_ ?_
  rotate_left
  · intro W hW; go_simp; try with_reducible rfl
  simp only [Act.put, List.setIfInBounds_toArray, List.set_cons_zero, List.set_cons_succ]
  refine regE_take (i := 15) (v := ?_) rfl (by kernel_rfl) (by kernel_rfl) (by kernel_rfl) (fun _ _ _ h => h) (by rfl) ?_ ?_
  rotate_left
  · intro W hW; go_simp; try with_reducible rfl
  simp only [Act.put, List.setIfInBounds_toArray, List.set_cons_zero, List.set_cons_succ]
  refine regE_take (i := 16) (v := ?_) rfl (by kernel_rfl) (by kernel_rfl) (by kernel_rfl) (fun _ _ _ h => h) (by rfl) ?_ ?_
  rotate_left
  · intro W hW; go_simp; try with_reducible rfl
  simp only [Act.put, List.setIfInBounds_toArray, List.set_cons_zero, List.set_cons_succ]
  refine regE_take (i := 17) (v := ?_) rfl (by kernel_rfl) (by kernel_rfl) (by kernel_rfl) (fun _ _ _ h => h) (by rfl) ?_ ?_
  rotate_left
  · intro W hW; go_simp; try with_reducible rfl
  simp only [Act.put, List.setIfInBounds_toArray, List.set_cons_zero, List.set_cons_succ]
  refine regE_take (i := 18) (v := ?_) rfl (by kernel_rfl) (by kernel_rfl) (by kernel_rfl) (fun _ _ _ h => h) (by rfl) ?_ ?_
  rotate_left
  · intro W hW; go_simp; try with_reducible rfl
  simp only [Act.put, List.setIfInBounds_toArray, List.set_cons_zero, List.set_cons_succ]
  refine regE_take (i := 19) (v := ?_) rfl (by kernel_rfl) (by kernel_rfl) (by kernel_rfl) (fun _ _ _ h => h) (by rfl) ?_ ?_
  rotate_left
  · intro W hW; go_simp; try with_reducible rfl
  simp only [Act.put, List.setIfInBounds_toArray, List.set_cons_zero, List.set_cons_succ]
  refine regE_take (i := 20) (v := ?_) rfl (by kernel_rfl) (by kernel_rfl) (by kernel_rfl) (fun _ _ _ h => h) (by rfl) ?_ ?_
  rotate_left
  · intro W hW; go_simp; try with_reducible rfl
  simp only [Act.put, List.setIfInBounds_toArray, List.set_cons_zero, List.set_cons_succ]
  refine regE_do (i := 21) rfl (by kernel_rfl) (fun K hK => ?_)
  rw [if_pos (by rfl)]
  go_simp
  have h7 := Blk.new wr0 54 #[.bool false, .bool false, .bool false, .int .i64 0, .int .u16 0, .int .u32 0, .int .u32 0, .slice none 0 0]
  obtain ⟨g7, hg7⟩ : ∃ g, wr0.heap.size = g := ⟨_, rfl⟩
  rw [hg7] at h7 ⊢
  have hle7 : w.heap.size < g7 := by rw [← hg7]; exact Nat.lt_of_lt_of_le hz.lt (Nat.le_refl _)
  clear hg7
  refine hK.out _ _ (hR.alloc _) ?_
  clear hK K
  replace hR := hR.alloc (.cells #[.bool false, .bool false, .bool false, .int .i64 0, .int .u16 0, .int .u32 0, .int .u32 0, .slice none 0 0] 54)
  replace hz := hz.alloc (.cells #[.bool false, .bool false, .bool false, .int .i64 0, .int .u16 0, .int .u32 0, .int .u32 0, .slice none 0 0] 54)
  generalize hgw : wr0.alloc (.cells #[.bool false, .bool false, .bool false, .int .i64 0, .int .u16 0, .int .u32 0, .int .u32 0, .slice none 0 0] 54) = wr1 at *
  clear hgw
  try simp only [Act.put, List.setIfInBounds_toArray, List.set_cons_zero, List.set_cons_succ]
  refine regE_do (i := 22) rfl (by kernel_rfl) (fun K hK => ?_)
  rw [if_pos (by rfl)]
  obtain ⟨⟨u0, u1, u2, u3, u4, u5, u6, u7⟩, v7, _⟩ := h7.eight
  go_simp
  refine hK.out _ _ (Ext.put8 hR (Nat.le_of_lt hle7)) ?_
  clear hK K u0 u1 u2 u3 u4 u5 u6 u7 v7
  replace hR := Ext.put8 (w1 := wr1) (g := g7) (a' := .bool (decide (0 < bits .and .u8 (b0 : Int) 32))) (b' := .bool (decide (0 < bits .and .u8 (b0 : Int) 16))) (c' := .bool (decide (0 < bits .and .u8 (b1 : Int) 128))) (d' := .int .i64 (IntKind.i64.wrap (bits .and .u8 (b1 : Int) 127))) (e' := .int .u16 0) (f' := .int .u32 0) (k' := .int .u32 0) (l' := .slice none 0 0) hR (Nat.le_of_lt hle7)
  replace h7 := Blk.put8 (a' := .bool (decide (0 < bits .and .u8 (b0 : Int) 32))) (b' := .bool (decide (0 < bits .and .u8 (b0 : Int) 16))) (c' := .bool (decide (0 < bits .and .u8 (b1 : Int) 128))) (d' := .int .i64 (IntKind.i64.wrap (bits .and .u8 (b1 : Int) 127))) (e' := .int .u16 0) (f' := .int .u32 0) (k' := .int .u32 0) (l' := .slice none 0 0) h7
  replace hz := Blk.far8 (g := g7) (a' := .bool (decide (0 < bits .and .u8 (b0 : Int) 32))) (b' := .bool (decide (0 < bits .and .u8 (b0 : Int) 16))) (c' := .bool (decide (0 < bits .and .u8 (b1 : Int) 128))) (d' := .int .i64 (IntKind.i64.wrap (bits .and .u8 (b1 : Int) 127))) (e' := .int .u16 0) (f' := .int .u32 0) (k' := .int .u32 0) (l' := .slice none 0 0) hz (Nat.ne_of_lt hle7)
  generalize hgw : ((((((((wr1.setCell ⟨g7, 0, none⟩ (.bool (decide (0 < bits .and .u8 (b0 : Int) 32)))).setCell ⟨g7, 0 + 1, none⟩ (.bool (decide (0 < bits .and .u8 (b0 : Int) 16)))).setCell ⟨g7, 0 + 2, none⟩ (.bool (decide (0 < bits .and .u8 (b1 : Int) 128)))).setCell ⟨g7, 0 + 3, none⟩ (.int .i64 (IntKind.i64.wrap (bits .and .u8 (b1 : Int) 127)))).setCell ⟨g7, 0 + 4, none⟩ (.int .u16 0)).setCell ⟨g7, 0 + 5, none⟩ (.int .u32 0)).setCell ⟨g7, 0 + 6, none⟩ (.int .u32 0)).setCell ⟨g7, 0 + 7, none⟩ (.slice none 0 0)) = wr2 at *
  clear hgw
  try simp only [Act.put, List.setIfInBounds_toArray, List.set_cons_zero, List.set_cons_succ]
  refine regE_done (by kernel_rfl) ?_
  refine NoPanic.normal ?_
  simp only [K1.out, K2.out, K3.out, K4.out] at h7 ⊢
  have c4 : (4 : Int) ≤ (c : Int) := by omega
  have c8 : (8 : Int) ≤ (c : Int) := by omega
  have c13 : (12 : Int) ≤ (c : Int) := by omega
  clear f0 f1 F hR0
  gi_wp2
  generalize hgw : wr2 = w2 at *
  clear hgw
  refine wpIn_wide.2 ?_
  have hR2 := hR
  clear hR
  refine wp_region_noPanic ?_
  refine regE_start_at (hR2) (by kernel_rfl) ?_
  have hR := (hR2).drew
  replace hz := hz.drew
  replace h7 := h7.drew
  generalize hgw : (w2).drew = wr0 at *
  clear hgw
  refine regE_take (i := 0) (v := ?_) rfl (by kernel_rfl) (by kernel_rfl) (by kernel_rfl) (fun _ _ _ h => h) (by rfl) ?_ ?_
  rotate_left
  · intro W hW; go_simp; try with_reducible rfl
  simp only [Act.put, List.setIfInBounds_toArray, List.set_cons_zero, List.set_cons_succ]
  refine regE_take (i := 1) (v := ?_) rfl (by kernel_rfl) (by kernel_rfl) (by kernel_rfl) (fun _ _ _ h => h) (by rfl) ?_ ?_
  rotate_left
  · intro W hW; go_simp; try with_reducible rfl
  simp only [Act.put, List.setIfInBounds_toArray, List.set_cons_zero, List.set_cons_succ]
  refine regE_take (i := 4) (v := ?_) rfl (by kernel_rfl) (by kernel_rfl) (by kernel_rfl) (fun _ _ _ h => h) (by rfl) ?_ ?_
  rotate_left
  · intro W hW; go_simp; try with_reducible rfl
  simp only [Act.put, List.setIfInBounds_toArray, List.set_cons_zero, List.set_cons_succ]
  refine regE_take (i := 5) (v := ?_) rfl (by kernel_rfl) (by kernel_rfl) (by kernel_rfl) (fun _ _ _ h => h) (by rfl) ?_ ?_
  rotate_left
  · intro W hW; go_simp; try with_reducible rfl
  simp only [Act.put, List.setIfInBounds_toArray, List.set_cons_zero, List.set_cons_succ]
  refine regE_take (i := 7) (v := ?_) rfl (by kernel_rfl) (by kernel_rfl) (by kernel_rfl) (fun _ _ _ h => h) (by rfl) ?_ ?_
  rotate_left
  · intro W hW; go_simp; try with_reducible rfl
  simp only [Act.put, List.setIfInBounds_toArray, List.set_cons_zero, List.set_cons_succ]
  refine regE_take (i := 8) (v := ?_) rfl (by kernel_rfl) (by kernel_rfl) (by kernel_rfl) (fun _ _ _ h => h) (by rfl) ?_ ?_
  rotate_left
  · intro W hW; go_simp; try with_reducible rfl
  simp only [Act.put, List.setIfInBounds_toArray, List.set_cons_zero, List.set_cons_succ]
  refine regE_do (i := 2) rfl (by kernel_rfl) (fun K hK => ?_)
  rw [if_pos (by rfl)]
  go_simp
  refine (S2.out _ hR).mono ?_
  rintro e w' ⟨rfl, rfl⟩
  refine hK.out _ _ hR ?_
  clear hK K
  try simp only [Act.put, List.setIfInBounds_toArray, List.set_cons_zero, List.set_cons_succ]
  refine regE_take (i := 3) (v := ?_) rfl (by kernel_rfl) (by kernel_rfl) (by kernel_rfl) (fun _ _ _ h => h) (by rfl) ?_ ?_
  rotate_left
  · intro W hW; go_simp; try with_reducible rfl
  simp only [Act.put, List.setIfInBounds_toArray, List.set_cons_zero, List.set_cons_succ]
  refine regE_take (i := 10) (v := ?_) rfl (by kernel_rfl) (by kernel_rfl) (by kernel_rfl) (fun _ _ _ h => h) (by rfl) ?_ ?_
  rotate_left
  · intro W hW; go_simp; try with_reducible rfl
  simp only [Act.put, List.setIfInBounds_toArray, List.set_cons_zero, List.set_cons_succ]
  refine regE_do (i := 6) rfl (by kernel_rfl) (fun K hK => ?_)
  rw [if_pos (by rfl)]
  go_simp
  refine (S4.out _ hR).mono ?_
  rintro e w' ⟨rfl, rfl⟩
  refine hK.out _ _ hR ?_
  clear hK K
  try simp only [Act.put, List.setIfInBounds_toArray, List.set_cons_zero, List.set_cons_succ]
  refine regE_do (i := 9) rfl (by kernel_rfl) (fun K hK => ?_)
  rw [if_pos (by rfl)]
  go_simp
  refine (S8.out _ hR).mono ?_
  rintro e w' ⟨rfl, rfl⟩
  refine hK.out _ _ hR ?_
  clear hK K
  try simp only [Act.put, List.setIfInBounds_toArray, List.set_cons_zero, List.set_cons_succ]
  refine regE_do (i := 11) rfl (by kernel_rfl) (fun K hK => ?_)
  rw [if_pos (by rfl)]
  have uS := h7.cell 4
  have vS := h7.frozen 4
  simp at uS
  go_simp
  refine hK.out _ _ (hR.setCell (p := ⟨g7, 4, none⟩) (Nat.le_of_lt hle7) _) ?_
  clear hK K uS vS
  replace hR := hR.setCell (p := ⟨g7, 4, none⟩) (Nat.le_of_lt hle7) (.int .u16 (IntKind.u16.wrap (n2 : Int)))
  replace hz := hz.far (p := ⟨g7, 4, none⟩) (fun e => by have e' : _ = g7 := e; omega) (.int .u16 (IntKind.u16.wrap (n2 : Int)))
  replace h7 := h7.set_ 4 (.int .u16 (IntKind.u16.wrap (n2 : Int)))
  simp only [List.setIfInBounds_toArray, List.set_cons_zero, List.set_cons_succ] at h7
  generalize hgw : wr0.setCell ⟨g7, 4, none⟩ (.int .u16 (IntKind.u16.wrap (n2 : Int))) = wr1 at *
  clear hgw
  try simp only [Act.put, List.setIfInBounds_toArray, List.set_cons_zero, List.set_cons_succ]
  refine regE_take (i := 12) (v := ?_) rfl (by kernel_rfl) (by kernel_rfl) (by kernel_rfl) (fun _ _ _ h => h) (by rfl) ?_ ?_
  rotate_left
  · intro W hW; go_simp; try with_reducible rfl
  simp only [Act.put, List.setIfInBounds_toArray, List.set_cons_zero, List.set_cons_succ]
  refine regE_do (i := 13) rfl (by kernel_rfl) (fun K hK => ?_)
  rw [if_pos (by rfl)]
  have uS := h7.cell 5
  have vS := h7.frozen 5
  simp at uS
  go_simp
  refine hK.out _ _ (hR.setCell (p := ⟨g7, 5, none⟩) (Nat.le_of_lt hle7) _) ?_
  clear hK K uS vS
  replace hR := hR.setCell (p := ⟨g7, 5, none⟩) (Nat.le_of_lt hle7) (.int .u32 (n4 : Int))
  replace hz := hz.far (p := ⟨g7, 5, none⟩) (fun e => by have e' : _ = g7 := e; omega) (.int .u32 (n4 : Int))
  replace h7 := h7.set_ 5 (.int .u32 (n4 : Int))
  simp only [List.setIfInBounds_toArray, List.set_cons_zero, List.set_cons_succ] at h7
  generalize hgw : wr1.setCell ⟨g7, 5, none⟩ (.int .u32 (n4 : Int)) = wr2 at *
  clear hgw
  try simp only [Act.put, List.setIfInBounds_toArray, List.set_cons_zero, List.set_cons_succ]
  refine regE_take (i := 14) (v := ?_) rfl (by kernel_rfl) (by kernel_rfl) (by kernel_rfl) (fun _ _ _ h => h) (by rfl) ?_ ?_
  rotate_left
  · intro W hW; go_simp; try with_reducible rfl
  simp only [Act.put, List.setIfInBounds_toArray, List.set_cons_zero, List.set_cons_succ]
  refine regE_do (i := 15) rfl (by kernel_rfl) (fun K hK => ?_)
  rw [if_pos (by rfl)]
  have uS := h7.cell 6
  have vS := h7.frozen 6
  simp at uS
  go_simp
  refine hK.out _ _ (hR.setCell (p := ⟨g7, 6, none⟩) (Nat.le_of_lt hle7) _) ?_
  clear hK K uS vS
  replace hR := hR.setCell (p := ⟨g7, 6, none⟩) (Nat.le_of_lt hle7) (.int .u32 (n8 : Int))
  replace hz := hz.far (p := ⟨g7, 6, none⟩) (fun e => by have e' : _ = g7 := e; omega) (.int .u32 (n8 : Int))
  replace h7 := h7.set_ 6 (.int .u32 (n8 : Int))
  simp only [List.setIfInBounds_toArray, List.set_cons_zero, List.set_cons_succ] at h7
  generalize hgw : wr2.setCell ⟨g7, 6, none⟩ (.int .u32 (n8 : Int)) = wr3 at *
  clear hgw
  try simp only [Act.put, List.setIfInBounds_toArray, List.set_cons_zero, List.set_cons_succ]
  refine regE_done (by kernel_rfl) ?_
  refine NoPanic.normal ?_
  rw [E16.out] at h7 ⊢
  clear S2 S4 S8 E16 K1 K2 K3 K4 hR2 hne k15
  have hd := hb.subIf (lo := 12) (hi := 12 + 4 * m) (by omega) hl
  obtain ⟨o', ho'⟩ : ∃ o', (if c = 12 then (some ⟨g, o, none⟩ : Option Addr) else some ⟨g, o + 12, none⟩) = some ⟨g, o', none⟩ := by split <;> exact ⟨_, rfl⟩
  simp only [Option.map_some, add_base] at hd
  rw [ho', show 12 + 4 * m - 12 = 4 * m by omega] at hd
  have e6 : (12 + 4 * (m : Int)).toNat = 12 + 4 * m := by omega
  have e7 : 12 + 4 * m - 12 = 4 * m := by omega
  generalize hgw : wr3 = w3 at *
  clear hgw
  gi_wp2_with (refine ⟨trivial, ?_⟩; gi_at_call 44; refine (chunk_in _ _ _ _ _).mono ?_; rintro e w' ⟨rfl, rfl⟩)
  obtain ⟨s, hs⟩ : ∃ s, w3.heap.size = s := ⟨_, rfl⟩
  have g7s : g7 < s := by rw [← hs]; exact h7.lt
  have b7 := (h7.alloc (.cells #[.slice (some ⟨g, o', none⟩) (4 * m) (c - 12)] 22)).alloc (.cells #[.int .i64 4] 3)
  have bz := (hz.alloc (.cells #[.slice (some ⟨g, o', none⟩) (4 * m) (c - 12)] 22)).alloc (.cells #[.int .i64 4] 3)
  have bS := (Blk.new w3 22 #[.slice (some ⟨g, o', none⟩) (4 * m) (c - 12)]).alloc (.cells #[.int .i64 4] 3)
  have bN := Blk.new (w3.alloc (.cells #[.slice (some ⟨g, o', none⟩) (4 * m) (c - 12)] 22)) 3 #[.int .i64 4]
  have hE : Ext w ((w3.alloc (.cells #[.slice (some ⟨g, o', none⟩) (4 * m) (c - 12)] 22)).alloc (.cells #[.int .i64 4] 3)) := (hR.alloc _).alloc _
  have hsz : ((w3.alloc (.cells #[.slice (some ⟨g, o', none⟩) (4 * m) (c - 12)] 22)).alloc (.cells #[.int .i64 4] 3)).heap.size = s + 2 := by simp; omega
  simp only [World.size_alloc] at bN
  rw [hs] at bS bN ⊢
  generalize (w3.alloc (.cells #[.slice (some ⟨g, o', none⟩) (4 * m) (c - 12)] 22)).alloc (.cells #[.int .i64 4] 3) = W0 at *
  have hcb1 : W0.cell? ⟨s, 0, none⟩ = some (.slice (some ⟨g, o', none⟩) (4 * m) (c - 12)) := bS.cell 0
  have hcb2 : W0.cell? ⟨s + 1, 0, none⟩ = some (.int .i64 4) := bN.cell 0
  have HO := hide ho'
  clear hs h7 hz hR e6 e7 ho'
  refine wpIn_rangeFunc_ownF rfl (by omega) (gf := 50) (lb := #[.pointer (some ⟨s, 0, none⟩), .pointer (some ⟨s + 1, 0, none⟩)]) rfl trivial (enters_of Try.func50 (by kernel_rfl) rfl)
    (chunk_stops (5 - 1) (by omega) s (s + 1) m (c - 12) g o' (by omega) (by omega) (by omega) W0 (by omega) (by omega) hcb1 hcb2)
    KpBox.trans (fun W l o o' _ hl ho _ => KpBox.book W l o o' hl ho) (Below.refl _ _) (fun _ => rfl)
    (fun pre W => (∃ A' c', Blk W g7 54 #[.bool (decide (b0 / 32 % 2 = 1)), .bool (decide (b0 / 16 % 2 = 1)), .bool (decide (128 ≤ b1)), .int .i64 ((b1 % 128 : Nat) : Int), .int .u16 (s2 : Int), .int .u32 (n4 : Int), .int .u32 (n8 : Int), .slice A' pre.length c'] ∧
      W.ownsRow w.heap.size 51 e32.size (.slice A' pre.length c') pre.length (e32.cells (pre.map fun x => UInt32.ofNat (val ((((b.drop 12).take (4 * m)).drop (4 * x.1)).take 4)))) ∧
      (∀ b, b < s + 2 → (Value.slice A' pre.length c').ownBlock ≠ some b) ∧ s + 2 ≤ W.heap.size ∧
      Blk W w.heap.size 54 #[.bool false, .bool false, .bool false, .int .i64 0, .int .u16 0, .int .u32 0, .int .u32 0, .slice none 0 0] ∧ Blk W s 22 #[.slice (some ⟨g, o', none⟩) (4 * m) (c - 12)] ∧ Blk W (s + 1) 3 #[.int .i64 4]) ∧ Below w.heap.size w W)
    (fun _ _ _ => False)
    (OwnFrom.and (Own.from (fun s A B row hs hg hr => by
      obtain ⟨A', c', h1, h2, h3, h4, h5, h6, h7⟩ := hs
      exact ⟨A', c', h1.kept hg hr, own_books h2 hg hr, h3, Nat.le_trans h4 hg.size, h5.kept hg hr, h6.kept hg hr, h7.kept hg hr⟩) _) (ownFrom_below (Nat.le_refl _) (by have := hE.size; omega)))
    (fun _ _ _ _ _ hs _ _ => hs)
    ⟨⟨none, 0, b7, World.ownsRow_nil _ _ _ _, fun _ _ => by simp [Value.ownBlock], by omega, bz, bS, bN⟩, hE⟩ ?_ ?_ ?_ ?_ ?_
  rotate_left
  · intro l x W K hK
    gi_wp2
    exact hK
  · rintro l pre x W ⟨⟨A', c', h1, h2, h3, h4, hz, hb1, hb2⟩, hB⟩ hplt
    have hx : 4 * x.1 + 4 ≤ 4 * m := by have := x.2; omega
    have hbx := (hd.ext hB).part (lo := 4 * x.1) (hi := 4 * x.1 + 4) (m := 4) (c' := 4) (by omega) hx (by omega) (by omega) (by omega)
    obtain ⟨q, hq⟩ : ∃ q, UInt32.ofNat (val ((((b.drop 12).take (4 * m)).drop (4 * x.1)).take 4)) = q := ⟨_, rfl⟩
    have S := hide (fun W A hW => number_N A 4 4 ((((b.drop 12).take (4 * m)).drop (4 * x.1)).take 4) W hW (by omega) (by omega) q.toNat (by rw [hq]))
    have HX := hide (And.intro hbx.len hq)
    obtain ⟨y, hy⟩ : ∃ y, (((b.drop 12).take (4 * m)).drop (4 * x.1)).take 4 = y := ⟨_, rfl⟩
    rw [hy] at hbx S
    obtain ⟨N, hN⟩ : ∃ N, pre.length = N := ⟨_, rfl⟩
    have HN := hide hN
    have h1' := h1
    rw [hN] at h1 h2 h3 hplt
    have hN2 : N ≤ 15 := by have := hplt; omega
    clear hy hq hN h1'
    generalize hL : (pre.map fun x => UInt32.ofNat (val ((((b.drop 12).take (4 * m)).drop (4 * x.1)).take 4))) = L at h2
    have HLL := hide hL
    have hKO := KeepsOthers.refl W
    have hR : Ext w W := hB
    have hB1 := hb1
    have hB2 := hb2
    clear hL hB
    gi_wp2
    refine regI_start (by kernel_rfl) (by kernel_rfl) ?_
    have hR := (hR).drew
    replace h1 := h1.drew
    replace h2 := h2.drew
    replace hz := hz.drew
    replace hB1 := hB1.drew
    replace hB2 := hB2.drew
    replace hbx := hbx.drew
    replace hKO := hKO.trans (KeepsOthers.drew _)
    generalize hgw : (W).drew = wr0 at *
    clear hgw
    refine regI_take (i := 0) (v := ?_) rfl (by kernel_rfl) (by kernel_rfl) (by kernel_rfl) (fun _ _ _ h => h) (by rfl) (fun _ => by rfl) ?_ ?_
    rotate_left
    · intro W; go_simp; try with_reducible rfl
    simp only [Act.put, List.setIfInBounds_toArray, List.set_cons_zero, List.set_cons_succ]
    refine regI_take (i := 2) (v := ?_) rfl (by kernel_rfl) (by kernel_rfl) (by kernel_rfl) (fun _ _ _ h => h) (by rfl) (fun _ => by rfl) ?_ ?_
    rotate_left
    · intro W; go_simp; try with_reducible rfl
    simp only [Act.put, List.setIfInBounds_toArray, List.set_cons_zero, List.set_cons_succ]
    refine regI_do2 (i0 := 1) (i1 := 3) (by kernel_rfl) rfl rfl (by rfl) (by rfl) (fun K hK => ?_) (fun K hK => ?_)
    · have cS := h1.cell 7
      simp at cS
      go_simp
      refine hK.out _ _ ?_
      clear hK K
      try simp only [Act.put, List.setIfInBounds_toArray, List.set_cons_zero, List.set_cons_succ]
      refine regI_do (i := 3) (by kernel_rfl) rfl (by rfl) (fun K hK => ?_)
      go_simp
      refine (S.out _ _ hbx).mono ?_
      rintro e w' ⟨rfl, rfl⟩
      refine hK.out _ _ ?_
      clear hK K
      try simp only [Act.put, List.setIfInBounds_toArray, List.set_cons_zero, List.set_cons_succ]
      refine regI_do (i := 4) (by kernel_rfl) rfl (by rfl) (fun K hK => ?_)
      go_simp
      have hL := Els.lit (E := e32) (w := wr0) (vs := [.int .u32 (q.toNat : Int)]) [q] 51 1 rfl rfl (by omega)
      obtain ⟨gL, hgL⟩ : ∃ g, wr0.heap.size = g := ⟨_, rfl⟩
      rw [hgL] at hL ⊢
      clear hgL
      refine hK.out _ _ ?_
      clear hK K
      replace hR := hR.alloc (.cells #[.int .u32 (q.toNat : Int)] 51)
      replace h1 := h1.alloc (.cells #[.int .u32 (q.toNat : Int)] 51)
      replace h2 := h2.alloc (.cells #[.int .u32 (q.toNat : Int)] 51)
      replace hz := hz.alloc (.cells #[.int .u32 (q.toNat : Int)] 51)
      replace hB1 := hB1.alloc (.cells #[.int .u32 (q.toNat : Int)] 51)
      replace hB2 := hB2.alloc (.cells #[.int .u32 (q.toNat : Int)] 51)
      replace hbx := hbx.alloc (.cells #[.int .u32 (q.toNat : Int)] 51)
      replace hKO := hKO.trans (KeepsOthers.alloc _ (.cells #[.int .u32 (q.toNat : Int)] 51))
      generalize hgw : wr0.alloc (.cells #[.int .u32 (q.toNat : Int)] 51) = wr1 at *
      clear hgw
      try simp only [Act.put, List.setIfInBounds_toArray, List.set_cons_zero, List.set_cons_succ]
      refine regI_do (i := 5) (by kernel_rfl) rfl (by rfl) (fun K hK => ?_)
      refine wp_appEg T w _ _ rfl hR A' N c' L rfl h2 _ 1 1 [q] rfl hL (by omega) ?_
      intro A2 c2 wr2 hown2 hE2 hg2 hk2
      refine hK.out _ _ ?_
      clear hK K
      replace hR := hE2
      replace hKO := hKO.trans (KeepsOthers.of_grownBy hg2 (own_isCells h2))
      have h3' := fun b (hb : b < s + 2) => (hk2 b (by have := hB2.lt; omega) (h3 b hb)).1
      replace h1 := (hk2.blk h1 (h3 g7 (by omega))).1
      replace hz := (hk2.blk hz (h3 _ (by omega))).1
      replace hB1 := (hk2.blk hB1 (h3 _ (by omega))).1
      replace hB2 := (hk2.blk hB2 (h3 _ (by omega))).1
      replace h2 := hown2
      clear hg2 hk2 hE2 hown2 hL hbx
      try simp only [Act.put, List.setIfInBounds_toArray, List.set_cons_zero, List.set_cons_succ]
      refine regI_take (i := 6) (v := ?_) rfl (by kernel_rfl) (by kernel_rfl) (by kernel_rfl) (fun _ _ _ h => h) (by rfl) (fun _ => by rfl) ?_ ?_
      rotate_left
      · intro W; go_simp; try with_reducible rfl
      simp only [Act.put, List.setIfInBounds_toArray, List.set_cons_zero, List.set_cons_succ]
      refine regI_do (i := 7) (by kernel_rfl) rfl (by rfl) (fun K hK => ?_)
      have uS := h1.cell 7
      have vS := h1.frozen 7
      simp at uS
      go_simp
      refine hK.out _ _ ?_
      clear hK K uS vS
      replace hR := hR.setCell (p := ⟨g7, 7, none⟩) (Nat.le_of_lt hle7) (.slice A2 (N + 1) c2)
      replace h1 := h1.set_ 7 (.slice A2 (N + 1) c2)
      simp only [List.setIfInBounds_toArray, List.set_cons_zero, List.set_cons_succ] at h1
      replace h2 := own_set h2 (p := ⟨g7, 7, none⟩) (h3' g7 (by omega)) (.slice A2 (N + 1) c2)
      replace hz := hz.far (p := ⟨g7, 7, none⟩) (fun e => by have e' : _ = g7 := e; omega) (.slice A2 (N + 1) c2)
      replace hB1 := hB1.far (p := ⟨g7, 7, none⟩) (fun e => by have e' : _ = g7 := e; omega) (.slice A2 (N + 1) c2)
      replace hB2 := hB2.far (p := ⟨g7, 7, none⟩) (fun e => by have e' : _ = g7 := e; omega) (.slice A2 (N + 1) c2)
      replace hKO := hKO.trans (KeepsOthers.setCell _ ⟨g7, 7, none⟩ (.slice A2 (N + 1) c2))
      generalize hgw : wr2.setCell ⟨g7, 7, none⟩ (.slice A2 (N + 1) c2) = wr3 at *
      clear hgw
      try simp only [Act.put, List.setIfInBounds_toArray, List.set_cons_zero, List.set_cons_succ]
      refine regI_done (by kernel_rfl) ?_
      refine NoPanic.normal ?_
      have hl1 : (pre ++ [x]).length = N + 1 := by simp [HN.out]
      refine ⟨hKO, ⟨fun v hv => (hB1.cell 0).trans ((hb1.cell 0).symm.trans hv), fun v hv => (hB2.cell 0).trans ((hb2.cell 0).symm.trans hv)⟩, ⟨A2, c2, by rw [hl1]; exact h1, ?_, by rw [hl1]; exact h3', by have := hB2.lt; omega, hz, hB1, hB2⟩, hR⟩
      rw [hl1, List.map_append, List.map_singleton, HLL.out, HX.out.2]
      exact h2
    · go_simp
      refine (S.out _ _ hbx).mono ?_
      rintro e w' ⟨rfl, rfl⟩
      refine hK.out _ _ ?_
      clear hK K
      try simp only [Act.put, List.setIfInBounds_toArray, List.set_cons_zero, List.set_cons_succ]
      refine regI_do2 (i0 := 1) (i1 := 4) (by kernel_rfl) rfl rfl (by rfl) (by rfl) (fun K hK => ?_) (fun K hK => ?_)
      · have cS := h1.cell 7
        simp at cS
        go_simp
        refine hK.out _ _ ?_
        clear hK K
        try simp only [Act.put, List.setIfInBounds_toArray, List.set_cons_zero, List.set_cons_succ]
        refine regI_do (i := 4) (by kernel_rfl) rfl (by rfl) (fun K hK => ?_)
        go_simp
        have hL := Els.lit (E := e32) (w := wr0) (vs := [.int .u32 (q.toNat : Int)]) [q] 51 1 rfl rfl (by omega)
        obtain ⟨gL, hgL⟩ : ∃ g, wr0.heap.size = g := ⟨_, rfl⟩
        rw [hgL] at hL ⊢
        clear hgL
        refine hK.out _ _ ?_
        clear hK K
        replace hR := hR.alloc (.cells #[.int .u32 (q.toNat : Int)] 51)
        replace h1 := h1.alloc (.cells #[.int .u32 (q.toNat : Int)] 51)
        replace h2 := h2.alloc (.cells #[.int .u32 (q.toNat : Int)] 51)
        replace hz := hz.alloc (.cells #[.int .u32 (q.toNat : Int)] 51)
        replace hB1 := hB1.alloc (.cells #[.int .u32 (q.toNat : Int)] 51)
        replace hB2 := hB2.alloc (.cells #[.int .u32 (q.toNat : Int)] 51)
        replace hbx := hbx.alloc (.cells #[.int .u32 (q.toNat : Int)] 51)
        replace hKO := hKO.trans (KeepsOthers.alloc _ (.cells #[.int .u32 (q.toNat : Int)] 51))
        generalize hgw : wr0.alloc (.cells #[.int .u32 (q.toNat : Int)] 51) = wr1 at *
        clear hgw
        try simp only [Act.put, List.setIfInBounds_toArray, List.set_cons_zero, List.set_cons_succ]
        refine regI_do (i := 5) (by kernel_rfl) rfl (by rfl) (fun K hK => ?_)
        refine wp_appEg T w _ _ rfl hR A' N c' L rfl h2 _ 1 1 [q] rfl hL (by omega) ?_
        intro A2 c2 wr2 hown2 hE2 hg2 hk2
        refine hK.out _ _ ?_
        clear hK K
        replace hR := hE2
        replace hKO := hKO.trans (KeepsOthers.of_grownBy hg2 (own_isCells h2))
        have h3' := fun b (hb : b < s + 2) => (hk2 b (by have := hB2.lt; omega) (h3 b hb)).1
        replace h1 := (hk2.blk h1 (h3 g7 (by omega))).1
        replace hz := (hk2.blk hz (h3 _ (by omega))).1
        replace hB1 := (hk2.blk hB1 (h3 _ (by omega))).1
        replace hB2 := (hk2.blk hB2 (h3 _ (by omega))).1
        replace h2 := hown2
        clear hg2 hk2 hE2 hown2 hL hbx
        try simp only [Act.put, List.setIfInBounds_toArray, List.set_cons_zero, List.set_cons_succ]
        refine regI_take (i := 6) (v := ?_) rfl (by kernel_rfl) (by kernel_rfl) (by kernel_rfl) (fun _ _ _ h => h) (by rfl) (fun _ => by rfl) ?_ ?_
        rotate_left
        · intro W; go_simp; try with_reducible rfl
        simp only [Act.put, List.setIfInBounds_toArray, List.set_cons_zero, List.set_cons_succ]
        refine regI_do (i := 7) (by kernel_rfl) rfl (by rfl) (fun K hK => ?_)
        have uS := h1.cell 7
        have vS := h1.frozen 7
        simp at uS
        go_simp
        refine hK.out _ _ ?_
        clear hK K uS vS
        replace hR := hR.setCell (p := ⟨g7, 7, none⟩) (Nat.le_of_lt hle7) (.slice A2 (N + 1) c2)
        replace h1 := h1.set_ 7 (.slice A2 (N + 1) c2)
        simp only [List.setIfInBounds_toArray, List.set_cons_zero, List.set_cons_succ] at h1
        replace h2 := own_set h2 (p := ⟨g7, 7, none⟩) (h3' g7 (by omega)) (.slice A2 (N + 1) c2)
        replace hz := hz.far (p := ⟨g7, 7, none⟩) (fun e => by have e' : _ = g7 := e; omega) (.slice A2 (N + 1) c2)
        replace hB1 := hB1.far (p := ⟨g7, 7, none⟩) (fun e => by have e' : _ = g7 := e; omega) (.slice A2 (N + 1) c2)
        replace hB2 := hB2.far (p := ⟨g7, 7, none⟩) (fun e => by have e' : _ = g7 := e; omega) (.slice A2 (N + 1) c2)
        replace hKO := hKO.trans (KeepsOthers.setCell _ ⟨g7, 7, none⟩ (.slice A2 (N + 1) c2))
        generalize hgw : wr2.setCell ⟨g7, 7, none⟩ (.slice A2 (N + 1) c2) = wr3 at *
        clear hgw
        try simp only [Act.put, List.setIfInBounds_toArray, List.set_cons_zero, List.set_cons_succ]
        refine regI_done (by kernel_rfl) ?_
        refine NoPanic.normal ?_
        have hl1 : (pre ++ [x]).length = N + 1 := by simp [HN.out]
        refine ⟨hKO, ⟨fun v hv => (hB1.cell 0).trans ((hb1.cell 0).symm.trans hv), fun v hv => (hB2.cell 0).trans ((hb2.cell 0).symm.trans hv)⟩, ⟨A2, c2, by rw [hl1]; exact h1, ?_, by rw [hl1]; exact h3', by have := hB2.lt; omega, hz, hB1, hB2⟩, hR⟩
        rw [hl1, List.map_append, List.map_singleton, HLL.out, HX.out.2]
        exact h2
      · go_simp
        have hL := Els.lit (E := e32) (w := wr0) (vs := [.int .u32 (q.toNat : Int)]) [q] 51 1 rfl rfl (by omega)
        obtain ⟨gL, hgL⟩ : ∃ g, wr0.heap.size = g := ⟨_, rfl⟩
        rw [hgL] at hL ⊢
        clear hgL
        refine hK.out _ _ ?_
        clear hK K
        replace hR := hR.alloc (.cells #[.int .u32 (q.toNat : Int)] 51)
        replace h1 := h1.alloc (.cells #[.int .u32 (q.toNat : Int)] 51)
        replace h2 := h2.alloc (.cells #[.int .u32 (q.toNat : Int)] 51)
        replace hz := hz.alloc (.cells #[.int .u32 (q.toNat : Int)] 51)
        replace hB1 := hB1.alloc (.cells #[.int .u32 (q.toNat : Int)] 51)
        replace hB2 := hB2.alloc (.cells #[.int .u32 (q.toNat : Int)] 51)
        replace hbx := hbx.alloc (.cells #[.int .u32 (q.toNat : Int)] 51)
        replace hKO := hKO.trans (KeepsOthers.alloc _ (.cells #[.int .u32 (q.toNat : Int)] 51))
        generalize hgw : wr0.alloc (.cells #[.int .u32 (q.toNat : Int)] 51) = wr1 at *
        clear hgw
        try simp only [Act.put, List.setIfInBounds_toArray, List.set_cons_zero, List.set_cons_succ]
        refine regI_do (i := 1) (by kernel_rfl) rfl (by rfl) (fun K hK => ?_)
        have cS := h1.cell 7
        simp at cS
        go_simp
        refine hK.out _ _ ?_
        clear hK K
        try simp only [Act.put, List.setIfInBounds_toArray, List.set_cons_zero, List.set_cons_succ]
        refine regI_do (i := 5) (by kernel_rfl) rfl (by rfl) (fun K hK => ?_)
        refine wp_appEg T w _ _ rfl hR A' N c' L rfl h2 _ 1 1 [q] rfl hL (by omega) ?_
        intro A2 c2 wr2 hown2 hE2 hg2 hk2
        refine hK.out _ _ ?_
        clear hK K
        replace hR := hE2
        replace hKO := hKO.trans (KeepsOthers.of_grownBy hg2 (own_isCells h2))
        have h3' := fun b (hb : b < s + 2) => (hk2 b (by have := hB2.lt; omega) (h3 b hb)).1
        replace h1 := (hk2.blk h1 (h3 g7 (by omega))).1
        replace hz := (hk2.blk hz (h3 _ (by omega))).1
        replace hB1 := (hk2.blk hB1 (h3 _ (by omega))).1
        replace hB2 := (hk2.blk hB2 (h3 _ (by omega))).1
        replace h2 := hown2
        clear hg2 hk2 hE2 hown2 hL hbx
        try simp only [Act.put, List.setIfInBounds_toArray, List.set_cons_zero, List.set_cons_succ]
        refine regI_take (i := 6) (v := ?_) rfl (by kernel_rfl) (by kernel_rfl) (by kernel_rfl) (fun _ _ _ h => h) (by rfl) (fun _ => by rfl) ?_ ?_
        rotate_left
        · intro W; go_simp; try with_reducible rfl
        simp only [Act.put, List.setIfInBounds_toArray, List.set_cons_zero, List.set_cons_succ]
        refine regI_do (i := 7) (by kernel_rfl) rfl (by rfl) (fun K hK => ?_)
        have uS := h1.cell 7
        have vS := h1.frozen 7
        simp at uS
        go_simp
        refine hK.out _ _ ?_
        clear hK K uS vS
        replace hR := hR.setCell (p := ⟨g7, 7, none⟩) (Nat.le_of_lt hle7) (.slice A2 (N + 1) c2)
        replace h1 := h1.set_ 7 (.slice A2 (N + 1) c2)
        simp only [List.setIfInBounds_toArray, List.set_cons_zero, List.set_cons_succ] at h1
        replace h2 := own_set h2 (p := ⟨g7, 7, none⟩) (h3' g7 (by omega)) (.slice A2 (N + 1) c2)
        replace hz := hz.far (p := ⟨g7, 7, none⟩) (fun e => by have e' : _ = g7 := e; omega) (.slice A2 (N + 1) c2)
        replace hB1 := hB1.far (p := ⟨g7, 7, none⟩) (fun e => by have e' : _ = g7 := e; omega) (.slice A2 (N + 1) c2)
        replace hB2 := hB2.far (p := ⟨g7, 7, none⟩) (fun e => by have e' : _ = g7 := e; omega) (.slice A2 (N + 1) c2)
        replace hKO := hKO.trans (KeepsOthers.setCell _ ⟨g7, 7, none⟩ (.slice A2 (N + 1) c2))
        generalize hgw : wr2.setCell ⟨g7, 7, none⟩ (.slice A2 (N + 1) c2) = wr3 at *
        clear hgw
        try simp only [Act.put, List.setIfInBounds_toArray, List.set_cons_zero, List.set_cons_succ]
        refine regI_done (by kernel_rfl) ?_
        refine NoPanic.normal ?_
        have hl1 : (pre ++ [x]).length = N + 1 := by simp [HN.out]
        refine ⟨hKO, ⟨fun v hv => (hB1.cell 0).trans ((hb1.cell 0).symm.trans hv), fun v hv => (hB2.cell 0).trans ((hb2.cell 0).symm.trans hv)⟩, ⟨A2, c2, by rw [hl1]; exact h1, ?_, by rw [hl1]; exact h3', by have := hB2.lt; omega, hz, hB1, hB2⟩, hR⟩
        rw [hl1, List.map_append, List.map_singleton, HLL.out, HX.out.2]
        exact h2
  · rintro D ys W hD hys ⟨⟨A', c', h1, h2, h3, h4, hz, hb1, hb2⟩, hB⟩ hK
    have hyl : ys.length = m := by
      have := congrArg List.length hys
      simpa using this
    have hcs : (ys.map fun x => UInt32.ofNat (val ((((b.drop 12).take (4 * m)).drop (4 * x.1)).take 4))) = cs m (b.drop 12) := by
      rw [← cs_take m (b.drop 12), ← cs_range, ← hys, List.map_map]
      rfl
    rw [hcs, hyl] at h2
    rw [hyl] at h1
    obtain ⟨⟨u0, u1, u2, u3, u4, u5, u6, u7⟩, _, hl7⟩ := h1.eight
    obtain ⟨⟨r0, r1, r2, r3, r4, r5, r6, r7⟩, rf, hlz⟩ := hz.eight
    have HYL := hide hyl
    clear hcs hyl hys
    gi_wp2
    have hDne : D ≠ w.heap.size := by have := hE.size; omega
    have hzf : Blk ((((((((W.setCell ⟨w.heap.size, 0, none⟩ (.bool (decide (b0 / 32 % 2 = 1)))).setCell ⟨w.heap.size, 1, none⟩ (.bool (decide (b0 / 16 % 2 = 1)))).setCell ⟨w.heap.size, 2, none⟩ (.bool (decide (128 ≤ b1)))).setCell ⟨w.heap.size, 3, none⟩ (.int .i64 ((b1 : Int) % 128))).setCell ⟨w.heap.size, 4, none⟩ (.int .u16 (s2 : Int))).setCell ⟨w.heap.size, 5, none⟩ (.int .u32 (n4 : Int))).setCell ⟨w.heap.size, 6, none⟩ (.int .u32 (n8 : Int))).setCell ⟨w.heap.size, 7, none⟩ (.slice A' m c')) w.heap.size _ _ := Blk.put8 hz
    have hKf : ((((((((W.setCell ⟨w.heap.size, 0, none⟩ (.bool (decide (b0 / 32 % 2 = 1)))).setCell ⟨w.heap.size, 1, none⟩ (.bool (decide (b0 / 16 % 2 = 1)))).setCell ⟨w.heap.size, 2, none⟩ (.bool (decide (128 ≤ b1)))).setCell ⟨w.heap.size, 3, none⟩ (.int .i64 ((b1 : Int) % 128))).setCell ⟨w.heap.size, 4, none⟩ (.int .u16 (s2 : Int))).setCell ⟨w.heap.size, 5, none⟩ (.int .u32 (n4 : Int))).setCell ⟨w.heap.size, 6, none⟩ (.int .u32 (n8 : Int))).setCell ⟨w.heap.size, 7, none⟩ (.slice A' m c')).heap[D]? = _ := (heap_put8 hDne).trans hK
    have h2f : ((((((((W.setCell ⟨w.heap.size, 0, none⟩ (.bool (decide (b0 / 32 % 2 = 1)))).setCell ⟨w.heap.size, 1, none⟩ (.bool (decide (b0 / 16 % 2 = 1)))).setCell ⟨w.heap.size, 2, none⟩ (.bool (decide (128 ≤ b1)))).setCell ⟨w.heap.size, 3, none⟩ (.int .i64 ((b1 : Int) % 128))).setCell ⟨w.heap.size, 4, none⟩ (.int .u16 (s2 : Int))).setCell ⟨w.heap.size, 5, none⟩ (.int .u32 (n4 : Int))).setCell ⟨w.heap.size, 6, none⟩ (.int .u32 (n8 : Int))).setCell ⟨w.heap.size, 7, none⟩ (.slice A' m c')).ownsRow _ _ _ _ _ _ := own_put8 h2 (by rw [← HYL.out]; exact h3 w.heap.size (by omega))
    have hBf : Ext w ((((((((W.setCell ⟨w.heap.size, 0, none⟩ (.bool (decide (b0 / 32 % 2 = 1)))).setCell ⟨w.heap.size, 1, none⟩ (.bool (decide (b0 / 16 % 2 = 1)))).setCell ⟨w.heap.size, 2, none⟩ (.bool (decide (128 ≤ b1)))).setCell ⟨w.heap.size, 3, none⟩ (.int .i64 ((b1 : Int) % 128))).setCell ⟨w.heap.size, 4, none⟩ (.int .u16 (s2 : Int))).setCell ⟨w.heap.size, 5, none⟩ (.int .u32 (n4 : Int))).setCell ⟨w.heap.size, 6, none⟩ (.int .u32 (n8 : Int))).setCell ⟨w.heap.size, 7, none⟩ (.slice A' m c')) := Ext.put8 hB (Nat.le_refl _)
    clear u0 u1 u2 u3 u4 u5 u6 u7 r0 r1 r2 r3 r4 r5 r6 r7 rf
    generalize hgw : ((((((((W.setCell ⟨w.heap.size, 0, none⟩ (.bool (decide (b0 / 32 % 2 = 1)))).setCell ⟨w.heap.size, 1, none⟩ (.bool (decide (b0 / 16 % 2 = 1)))).setCell ⟨w.heap.size, 2, none⟩ (.bool (decide (128 ≤ b1)))).setCell ⟨w.heap.size, 3, none⟩ (.int .i64 ((b1 : Int) % 128))).setCell ⟨w.heap.size, 4, none⟩ (.int .u16 (s2 : Int))).setCell ⟨w.heap.size, 5, none⟩ (.int .u32 (n4 : Int))).setCell ⟨w.heap.size, 6, none⟩ (.int .u32 (n8 : Int))).setCell ⟨w.heap.size, 7, none⟩ (.slice A' m c')) = Wf at *
    clear hgw
    refine ⟨by simp, .inl ⟨_, _, rfl, run_takeDeferred hKf, ?_⟩⟩
    have hBd : Ext w (Wf.putObj D (.deferred none)) := Below.trans hBf (belowK_b (w := w) (Nat.le_refl _) Wf D _ (.deferred none) (by have := hE.size; omega) hKf rfl rfl)
    have hzd : Blk (Wf.putObj D (.deferred none)) _ _ _ := hzf.grown (grownBy_putObj' Wf D (.deferred none)) (fun e => hDne (by injection e with e; exact e.symm))
    have h2d := Els.own (E := e32) (ownsRow_putObj h2f (.deferred none) hKf rfl)
    obtain ⟨⟨u0, u1, u2, u3, u4, u5, u6, u7⟩, _, _⟩ := hzd.eight
    refine ⟨.tuple #[.agg #[(.bool (decide (b0 / 32 % 2 = 1))), (.bool (decide (b0 / 16 % 2 = 1))), (.bool (decide (128 ≤ b1))), (.int .i64 ((b1 : Int) % 128)), (.int .u16 (s2 : Int)), (.int .u32 (n4 : Int)), (.int .u32 (n8 : Int)), (.slice A' m c')], .int .i64 (12 + 4 * (m : Int)), .int .i64 0], by simp [results, Try.results31, go_sem, u0, u1, u2, u3, u4, u5, u6, u7], A', c', ?_, h2d, hBd⟩
    simp
  · rintro D c pre W _ _ h _
    exact h.elim
/-- head.Read, whatever the bytes are. -/
theorem hread_any (A : Option Addr) (n c : Nat) (b : List UInt8) (w : World) (hb : Bytes w A n c b) : Calls Try.prog 31 #[.slice A n c] w fun e w' =>
    ∃ A' c', e = .returned (.tuple #[.agg #[.bool (hH b).pad, .bool (hH b).ext, .bool (hH b).mark, .int .i64 (hH b).typ, .int .u16 ((hH b).seq.toNat : Int), .int .u32 ((hH b).time.toNat : Int), .int .u32 ((hH b).ssrc.toNat : Int), .slice A' (hH b).csrc.length c'], .int .i64 (hN b : Int), .int .i64 (hE b)]) ∧ Els e32 w' A' (hH b).csrc.length c' (hH b).csrc ∧ Ext w w' := by
  have hlen := hb.len
  have hz : ∀ E : Int, hE b = E → E ≠ 0 → ∀ e w', (e = Ending.returned (.tuple #[.agg #[.bool false, .bool false, .bool false, .int .i64 0, .int .u16 0, .int .u32 0, .int .u32 0, .slice none 0 0], .int .i64 0, .int .i64 E]) ∧ Ext w w') → ∃ A' c', e = .returned (.tuple #[.agg #[.bool (hH b).pad, .bool (hH b).ext, .bool (hH b).mark, .int .i64 (hH b).typ, .int .u16 ((hH b).seq.toNat : Int), .int .u32 ((hH b).time.toNat : Int), .int .u32 ((hH b).ssrc.toNat : Int), .slice A' (hH b).csrc.length c'], .int .i64 (hN b : Int), .int .i64 (hE b)]) ∧ Els e32 w' A' (hH b).csrc.length c' (hH b).csrc ∧ Ext w w' := by
    rintro E hE0 hne e w' ⟨rfl, hX⟩
    obtain ⟨q1, q2⟩ := hE_off b (by rw [hE0]; exact hne)
    rw [q1, q2, hE0]
    exact ⟨none, 0, rfl, Els.nil _, hX⟩
  by_cases h1 : n < 12
  · exact (hread_short A n c w h1).mono fun e w' h => hz 2 (by unfold hE; rw [if_pos (by omega)]) (by decide) e w' h
  · obtain ⟨g, o, rfl, hg⟩ := hb.form (by omega)
    by_cases h2 : (b.getD 0 0).toNat / 64 = 2
    · by_cases h3 : n < 12 + 4 * ((b.getD 0 0).toNat % 16)
      · exact (hread_short2 g o n c b w hb (by omega) h2 h3).mono fun e w' h => hz 2 (by unfold hE; rw [if_neg (by omega), if_neg (by omega), if_pos (by omega)]) (by decide) e w' h
      · have e0 : hE b = 0 := by unfold hE; rw [if_neg (by omega), if_neg (by omega), if_neg (by omega)]
        have e1 : hH b = hRaw b := by unfold hH; rw [if_pos e0]
        have e2 : hN b = 12 + 4 * ((b.getD 0 0).toNat % 16) := by unfold hN; rw [if_pos e0]
        have e3 : (hRaw b).csrc.length = (b.getD 0 0).toNat % 16 := by simp [hRaw, cs_len]
        rw [e0, e1, e2, e3]
        exact hread_ok g o n c b w hb (by omega) h2 (by omega)
    · exact (hread_version g o n c b w hb (by omega) h2).mono fun e w' h => hz 3 (by unfold hE; rw [if_neg (by omega), if_pos h2]) (by decide) e w' h
end Go.Proofs.Ytiamcdbnhmlhaaa

/- nack.Read. -/
import Derived.Test.YtiamcdbnhmlhaaaDoorNackReadR
import Derived.Test.YtiamcdbnhmlhaaaDoorChunk
import Derived.Test.YtiamcdbnhmlhaaaDoorElsIn
import Derived.Test.YtiamcdbnhmlhaaaDoorOctGP
namespace Go.Proofs.YtiamcdbnhmlhaaaDoor
open Go.RowKit Go.Shelf

attribute [local go_sem] Oper.semAt_some
theorem read_no (A : Option Addr) (n c : Nat) (w : World) (h : 65520 < n ∨ n % 4 ≠ 0) : Calls Tryd.prog 16 #[.slice A n c] w fun e w' => e = .returned (.tuple #[.slice none 0 0, .int .i64 4]) ∧ w = w' := by
  by_cases h1 : 65520 < n
  · go_enter Tryd.func16, Tryd.ntmps16
    go_wp2_with fail
    go_ret2
    exact ⟨rfl, rfl⟩
  · have h2 : (0 : Int) < (n : Int) % 4 := by omega
    go_enter Tryd.func16, Tryd.ntmps16
    go_wp2_with fail
    go_ret2
    exact ⟨rfl, rfl⟩
theorem read_nil (A : Option Addr) (c : Nat) (w : World) : Calls Tryd.prog 16 #[.slice A 0 c] w fun e w' => e = .returned (.tuple #[.slice none 0 0, .int .i64 2]) ∧ w = w' := by
  go_enter Tryd.func16, Tryd.ntmps16
  go_wp2_with fail
  go_ret2
  exact ⟨rfl, rfl⟩
theorem own_cells {w : World} {base : Nat} {e : TypeId} {size n : Nat} {v : Value} {xs : List Value} (h : w.ownsRow base e size v n xs) : ∀ (j : Nat) (o : Obj), v.ownBlock = some j → w.heap[j]? = some o → o.isCells = true := by
  intro j o hj ho
  rcases h.2 with ⟨rfl, _⟩ | ⟨g, cap, cur, rfl, _, hg, _⟩
  · cases hj
  · cases hj
    rw [hg] at ho
    cases ho
    rfl
theorem keep_cell {W w2 : World} {ob : Obj} {v v' : Value} (hk : Keep (W.alloc ob) w2 v v') {b : Nat} (hb : b < W.heap.size) (hne : v.ownBlock ≠ some b) (u : Value) (hu : W.cell? ⟨b, 0, none⟩ = some u) : w2.cell? ⟨b, 0, none⟩ = some u := by
  have h1 := (hk b (by simp; omega) hne).2
  have h2 := Below.heap_alloc W ob b hb
  rw [World.cell?_of_block (a := ⟨b, 0, none⟩) (h1.trans h2)]
  exact hu
theorem rd_all (b : List UInt8) (m : Nat) (h : b.length = 4 * m) : (List.range m).map (fun k => prAt b (4 * k)) = rd b := by
  have : ∀ j, j ≤ m → (List.range j).map (fun k => prAt b (4 * k)) = rd (b.take (4 * j)) := by
    intro j
    induction j with
    | zero => intro _; simp [rd]
    | succ j ih =>
      intro hj
      rw [List.range_succ, List.map_append, ih (by omega), rd_take b j (by omega)]
      rfl
  have h1 := this m (Nat.le_refl _)
  rwa [List.take_of_length_le (by omega)] at h1
def four (b : List UInt8) (i : Nat) : List UInt8 := [b.getD i 0, b.getD (i + 1) 0, b.getD (i + 2) 0, b.getD (i + 3) 0]
theorem four_bytes {w : World} {g o n c : Nat} {b : List UInt8} (h : Bytes w (some ⟨g, o, none⟩) n c b) (i : Nat) (hi : i + 4 ≤ n) : Bytes w (some ⟨g, o + i, none⟩) 4 4 (four b i) := by
  obtain ⟨_, e, hg⟩ := h.addr (by omega)
  injection e with e
  subst e
  refine ⟨⟨rfl, fun _ => ⟨_, rfl, hg, fun j u hj => ?_⟩⟩, rfl, Nat.le_refl _, by omega⟩
  rw [add_base]
  have h0 := bcell h i (by omega)
  have h1 := bcell h (i + 1) (by omega)
  have h2 := bcell h (i + 2) (by omega)
  have h3 := bcell h (i + 3) (by omega)
  match j, hj with
  | 0, hj => simp [four, Bv] at hj; rw [← hj]; exact h0
  | 1, hj => simp [four, Bv] at hj; rw [← hj, Nat.add_assoc]; exact h1
  | 2, hj => simp [four, Bv] at hj; rw [← hj, Nat.add_assoc]; exact h2
  | 3, hj => simp [four, Bv] at hj; rw [← hj, Nat.add_assoc]; exact h3
  | j + 4, hj => simp [four] at hj
theorem four_val (b : List UInt8) (i : Nat) : val (four b i) < 4294967296 ∧ ePr.cells [prAt b i] = [.int .u16 ((val (four b i) : Int) / 65536), .int .u16 (IntKind.u16.wrap (val (four b i) : Int))] := by
  rw [ePr_cells_one]
  unfold prAt four
  have h0 := (b.getD i 0).toNat_lt
  have h1 := (b.getD (i + 1) 0).toNat_lt
  have h2 := (b.getD (i + 2) 0).toNat_lt
  have h3 := (b.getD (i + 3) 0).toNat_lt
  simp only [val, List.foldl_cons, List.foldl_nil, UInt16.toNat_ofNat', IntKind.wrap_u16, List.cons.injEq, and_true, Value.int.injEq, true_and]
  omega
set_option maxRecDepth 100000 in
set_option maxHeartbeats 1000000 in
theorem read_ok (m c g o : Nat) (b : List UInt8) (w : World) (h : Bytes w (some ⟨g, o, none⟩) (4 * m) c b) (h0 : 0 < m) (hm : m ≤ 16380) : Calls Tryd.prog 16 #[.slice (some ⟨g, o, none⟩) (4 * m) c] w fun e w' =>
    ∃ A' c', e = .returned (.tuple #[.slice A' m c', .int .i64 0]) ∧ w'.ownsRow w.heap.size 41 2 (.slice A' m c') m (ePr.cells (rd b)) ∧ Ext w w' := by
  obtain ⟨T⟩ := tyPr
  have hlen := h.len
  have hnc := h.le
  have hcm := h.reach
  refine (callsIn_wide (n := 5)).1 ?_
  obtain ⟨N, hN⟩ : ∃ N, 4 * m = N := ⟨_, rfl⟩
  have d1 : ¬ ((65520 : Int) < (N : Int)) := by omega
  have d2 : ¬ ((0 : Int) < (N : Int) % 4) := by omega
  have d3 : ((N : Int) == 0) = false := by rw [beq_eq_false_iff_ne]; omega
  refine callsIn_of_wp_marks Tryd.func16 rfl trivial ?_ rfl
  simp only [Tryd.ntmps16, List.size_toArray, List.length_cons, List.length_nil, Nat.reduceAdd, Nat.reduceSub, Array.replicate_succ, Array.replicate_zero, List.push_toArray, List.append_toArray, List.nil_append, List.cons_append]
  rw [hN]
  gi_wp2_with (refine ⟨trivial, ?_⟩; gi_at_call 22; refine (chunk_in _ _ _ _ _).mono ?_; rintro e w' ⟨rfl, rfl⟩)
  have b0 := ((Blk.new w 22 #[.slice none 0 0]).alloc (.cells #[.slice (some ⟨g, o, none⟩) N c] 24)).alloc (.cells #[.int .i64 4] 3)
  have b1 := (Blk.new (w.alloc (.cells #[.slice none 0 0] 22)) 24 #[.slice (some ⟨g, o, none⟩) N c]).alloc (.cells #[.int .i64 4] 3)
  have b2 := Blk.new ((w.alloc (.cells #[.slice none 0 0] 22)).alloc (.cells #[.slice (some ⟨g, o, none⟩) N c] 24)) 3 #[.int .i64 4]
  have hE : Ext w (((w.alloc (.cells #[.slice none 0 0] 22)).alloc (.cells #[.slice (some ⟨g, o, none⟩) N c] 24)).alloc (.cells #[.int .i64 4] 3)) := (((Ext.refl w).alloc _).alloc _).alloc _
  have hsz : (((w.alloc (.cells #[.slice none 0 0] 22)).alloc (.cells #[.slice (some ⟨g, o, none⟩) N c] 24)).alloc (.cells #[.int .i64 4] 3)).heap.size = w.heap.size + 3 := by simp
  simp only [World.size_alloc] at b1 b2
  generalize (((w.alloc (.cells #[.slice none 0 0] 22)).alloc (.cells #[.slice (some ⟨g, o, none⟩) N c] 24)).alloc (.cells #[.int .i64 4] 3)) = W0 at *
  have hcb1 : W0.cell? ⟨w.heap.size + 1, 0, none⟩ = some (.slice (some ⟨g, o, none⟩) (4 * m) c) := by rw [hN]; exact b1.cell 0
  have hcb2 : W0.cell? ⟨w.heap.size + 1 + 1, 0, none⟩ = some (.int .i64 4) := b2.cell 0
  refine wpIn_rangeFunc_ownF rfl (by omega) (gf := 27) (lb := #[.pointer (some ⟨w.heap.size + 1, 0, none⟩), .pointer (some ⟨w.heap.size + 1 + 1, 0, none⟩)]) rfl trivial (enters_of Tryd.func27 (by kernel_rfl) rfl)
    (chunk_stops (5 - 1) (by omega) (w.heap.size + 1) (w.heap.size + 1 + 1) m c g o hnc hcm (by omega) W0 (by omega) (by omega) hcb1 hcb2)
    KpBox.trans (fun W l o o' _ hl ho _ => KpBox.book W l o o' hl ho) (Below.refl _ _) (fun _ => rfl)
    (fun pre W => (∃ A' c', Blk W w.heap.size 22 #[.slice A' pre.length c'] ∧ W.ownsRow w.heap.size 41 2 (.slice A' pre.length c') pre.length (ePr.cells (pre.map fun x => prAt b (4 * x.1))) ∧
      (∀ k, k < 3 → (Value.slice A' pre.length c').ownBlock ≠ some (w.heap.size + k)) ∧ w.heap.size + 3 ≤ W.heap.size) ∧ Below w.heap.size w W)
    (fun _ _ _ => False)
    (OwnFrom.and (Own.from (fun s A B row hs hg hr => by
      obtain ⟨A', c', h1, h2, h3, h4⟩ := hs
      exact ⟨A', c', h1.kept hg hr, own_books h2 hg hr, h3, Nat.le_trans h4 hg.size⟩) _) (ownFrom_below (Nat.le_refl _) (by omega)))
    (fun _ _ _ _ _ hs _ _ => hs)
    ⟨⟨none, 0, b0, World.ownsRow_nil _ _ _ _, fun _ _ => by simp [Value.ownBlock], by omega⟩, hE⟩ ?_ ?_ ?_ ?_ ?_
  rotate_left
  · intro l x W K hK
    gi_wp2
    exact hK
  · rintro l pre x W ⟨⟨A', c', h1, h2, h3, h4⟩, hB⟩ hplt
    have hx : 4 * x.1 + 4 ≤ 4 * m := by have := x.2; omega
    have hbx := four_bytes (h.ext hB) (4 * x.1) hx
    obtain ⟨hv0, hcl⟩ := four_val b (4 * x.1)
    have S := get_B _ 4 4 _ 0 4 W hbx (val (four b (4 * x.1))) (by unfold getV getE; simp [four]) 0 (by unfold getE; simp [four])
    obtain ⟨v, hv⟩ : ∃ v, val (four b (4 * x.1)) = v := ⟨_, rfl⟩
    rw [hv] at hv0 hcl S
    obtain ⟨i, hi⟩ : ∃ i, 4 * x.1 = i := ⟨_, rfl⟩
    rw [hi] at S
    have hc0 : W.cell? ⟨w.heap.size, 0, none⟩ = some (.slice A' pre.length c') := h1.cell 0
    clear hbx
    generalize hq : prAt b (4 * x.1) = q at hcl
    have hlp : pre.length ≤ 1099511627775 := by
      have := hplt
      omega
    gi_wp2_with (first
      | (refine ⟨trivial, ?_⟩; gi_at_call 23; refine (CallsIn.inRound l (callsIn_wide.2 S)).mono ?_; rintro e w' ⟨rfl, rfl⟩)
      | (gi_at_builtin; refine wpListIn_appE T w _ _ rfl rfl (Ext.alloc hB _) A' pre.length c' _ rfl (h2.alloc _) _ 1 1 [q] rfl (Els.lit_at (by simp) [q] 41 1 hcl rfl (by omega)) (by omega) ?_; intro A2 c2 w2 hown2 hE2 hg2 hk2; have hb2 := (hk2.blk (h1.alloc _) (h3 0 (by omega))).1; have hc2 := hb2.cell 0; have hf2 := hb2.frozen 0))
    have hsz2 : W.heap.size ≤ w2.heap.size := by have := hg2.size; simp at this; omega
    have hl1 : (pre ++ [x]).length = pre.length + 1 := by simp
    have hap : ∀ k, k < 3 → (Value.slice A2 (pre.length + 1) c2).ownBlock ≠ some (w.heap.size + k) := fun k hk => (hk2 (w.heap.size + k) (by simp; omega) (h3 k hk)).1
    refine ⟨(KeepsOthers.alloc _ _).trans ((KeepsOthers.of_grownBy hg2 (own_cells (h2.alloc _))).trans (KeepsOthers.setCell _ _ _)), ⟨fun u hu => ?_, fun u hu => ?_⟩, ⟨A2, c2, ?_, ?_, ?_, by simp; omega⟩, hE2.setCell (p := ⟨w.heap.size, 0, none⟩) (Nat.le_refl _) _⟩
    · rw [World.cell?_setCell_other _ _ _ _ (by simp)]
      exact keep_cell hk2 (by omega) (h3 1 (by omega)) u hu
    · rw [World.cell?_setCell_other _ _ _ _ (by simp)]
      exact keep_cell hk2 (by omega) (h3 2 (by omega)) u hu
    · rw [hl1]
      exact hb2.set_ 0 _
    · rw [hl1, List.map_append, List.map_singleton, hq]
      exact hown2.kept (row := some w.heap.size) ⟨rfl, rfl, rfl, by simp, fun k _ hk => Below.heap_setCell w2 ⟨w.heap.size, 0, none⟩ _ k (fun e => hk (by rw [e]))⟩ (.inr (hap 0 (by omega)))
    · rw [hl1]
      exact hap
  · rintro D ys W hD hys ⟨⟨A', c', h1, h2, h3, h4⟩, hB⟩ hK
    have hc1 : W.cell? ⟨w.heap.size, 0, none⟩ = some (.slice A' ys.length c') := h1.cell 0
    have hyl : ys.length = m := by
      have := congrArg List.length hys
      simpa using this
    have hrd : (ys.map fun x => prAt b (4 * x.1)) = rd b := by
      rw [← rd_all b m hlen, ← hys, List.map_map]
      rfl
    rw [hrd, hyl] at h2
    rw [hyl] at hc1
    gi_wp2
    refine ⟨by simp, .inl ⟨_, _, rfl, run_takeDeferred hK, ?_⟩⟩
    exact ⟨_, results_tmp2 rfl _ _ _, _, _, rfl, ownsRow_putObj h2 _ hK rfl, hB.trans (belowK_b (w := w) (Nat.le_refl _) W D _ _ (by have := hE.size; omega) hK rfl rfl)⟩
  · rintro D c pre W _ _ h _
    exact h.elim
theorem read_any (A : Option Addr) (n c : Nat) (b : List UInt8) (w : World) (h : Bytes w A n c b) : Calls Tryd.prog 16 #[.slice A n c] w fun e w' =>
    ∃ A' c', e = .returned (.tuple #[.slice A' (rL b).length c', .int .i64 (rE b)]) ∧ w'.ownsRow w.heap.size 41 2 (.slice A' (rL b).length c') (rL b).length (ePr.cells (rL b)) ∧ Ext w w' := by
  have hlen := h.len
  by_cases h1 : 65520 < n ∨ n % 4 ≠ 0
  · have e1 : rE b = 4 := by unfold rE; rw [if_pos (by omega)]
    have e2 : rL b = [] := by unfold rL; rw [e1]; rfl
    rw [e1, e2]
    exact (read_no A n c w h1).mono fun e w' ⟨he, hw⟩ => ⟨none, 0, he, by subst hw; exact World.ownsRow_nil _ _ _ _, by subst hw; exact Ext.refl _⟩
  · by_cases h0 : n = 0
    · subst h0
      have e1 : rE b = 2 := by unfold rE; rw [if_neg (by omega), if_pos hlen]
      have e2 : rL b = [] := by unfold rL; rw [e1]; rfl
      rw [e1, e2]
      exact (read_nil A c w).mono fun e w' ⟨he, hw⟩ => ⟨none, 0, he, by subst hw; exact World.ownsRow_nil _ _ _ _, by subst hw; exact Ext.refl _⟩
    · have e1 : rE b = 0 := by unfold rE; rw [if_neg (by omega), if_neg (by omega)]
      have e2 : rL b = rd b := by unfold rL; rw [e1]; rfl
      rw [e1, e2]
      obtain ⟨m, rfl⟩ : ∃ m, n = 4 * m := ⟨n / 4, by omega⟩
      obtain ⟨g, o, rfl, hg⟩ := bplain h (by omega)
      have hl : (rd b).length = m := by have := rd_len b (by omega); omega
      rw [hl]
      exact read_ok m c g o b w h (by omega) (by omega)
end Go.Proofs.YtiamcdbnhmlhaaaDoor

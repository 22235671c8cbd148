/- octet.Put: a number's bytes. -/
import Derived.Test.YtcdacnhggpfnaaaOctet
import Derived.Test.YtcdacnhggpfnaaaBackward
import Derived.Test.YtcdacnhggpfnaaaBytes
namespace Go.Proofs.Ytcdacnhggpfnaaa
open Go.RowKit Go.Shelf

attribute [local go_sem] Oper.semAt_some

set_option maxHeartbeats 400000 in
theorem put_arg (v : Int) (n : Int) (w : World) (h : n < 1 ∨ 8 < n) : Calls Try.prog 49 #[.int .u64 v, .int .i64 n] w fun e w' => e = .returned (.tuple #[.slice none 0 0, .int .i64 1]) ∧ Ext w w' := by
  go_enter Try.func49, Try.ntmps49
  go_wp2_with (go_at_call 75; refine (sized_no _ _ h).mono ?_; rintro e w' ⟨rfl, rfl⟩)
  go_ret2
  exact ⟨rfl, (Ext.refl _).alloc _⟩
set_option maxHeartbeats 400000 in
theorem put_field (v : Nat) (n : Nat) (w : World) (h : 1 ≤ n) (h1 : n < 8) (hv : 256 ^ n ≤ v) : Calls Try.prog 49 #[.int .u64 v, .int .i64 n] w fun e w' => e = .returned (.tuple #[.slice none 0 0, .int .i64 6]) ∧ Ext w w' := by
  have hz := shr_pos v n hv
  go_enter Try.func49, Try.ntmps49
  go_wp2_with (go_at_call 75; refine (sized_yes _ _ (by omega) (by omega)).mono ?_; rintro e w' ⟨rfl, rfl⟩)
  go_ret2
  exact ⟨rfl, (Ext.refl _).alloc _⟩

set_option maxRecDepth 100000 in
set_option maxHeartbeats 1000000 in
theorem put_ok (v : Nat) (n : Nat) (w : World) (h : 1 ≤ n) (h1 : n ≤ 8) (hv : v < 256 ^ n) : Calls Try.prog 49 #[.int .u64 v, .int .i64 n] w fun e w' =>
    ∃ A c, e = .returned (.tuple #[.slice A n c, .int .i64 0]) ∧ w'.ownsRow w.heap.size 5 1 (.slice A n c) n ((be n v).map Bv) ∧ Ext w w' := by
  refine (callsIn_wide (n := 5)).1 ?_
  have hmk := make_bytes n (by omega)
  have hz := shr_none v n hv
  by_cases h8 : n < 8
  all_goals
    refine callsIn_of_wp_marks Try.func49 rfl trivial ?_ rfl
    simp only [Try.ntmps49, List.size_toArray, List.length_cons, List.length_nil, Nat.reduceAdd, Nat.reduceSub, Array.replicate_succ, Array.replicate_zero, List.push_toArray, List.append_toArray, List.nil_append, List.cons_append]
    gi_wp2_with (first | (refine ⟨trivial, ?_⟩; gi_at_call 75; refine (callsIn_wide.2 (sized_yes _ _ (by omega) (by omega))).mono ?_; rintro e w' ⟨rfl, rfl⟩) | (refine ⟨trivial, ?_⟩; gi_at_call 76; refine (backward_in Fence.wide _ trivial rfl _ _ _ _).mono ?_; rintro e w' ⟨rfl, rfl⟩))
    have hW1 : Ext w (w.alloc (.cells #[.int .u64 (v : Int)] 101)) := (Ext.refl _).alloc _
    have b0 := Blk.new w 101 #[.int .u64 (v : Int)]
    have b1 := Blk.new (w.alloc (.cells #[.int .u64 (v : Int)] 101)) 5 (Array.replicate n (Bv 0))
    have b2 := Blk.new ((w.alloc (.cells #[.int .u64 (v : Int)] 101)).alloc (.cells (Array.replicate n (Bv 0)) 5)) 22 #[.slice (some ⟨w.heap.size + 1, 0, none⟩) n n]
    have b3 := Blk.new (((w.alloc (.cells #[.int .u64 (v : Int)] 101)).alloc (.cells (Array.replicate n (Bv 0)) 5)).alloc (.cells #[.slice (some ⟨w.heap.size + 1, 0, none⟩) n n] 22)) 22 #[.slice (some ⟨w.heap.size + 1, 0, none⟩) n n]
    have r1 := Row.zeros ((b1.alloc (.cells #[.slice (some ⟨w.heap.size + 1, 0, none⟩) n n] 22)).alloc (.cells #[.slice (some ⟨w.heap.size + 1, 0, none⟩) n n] 22))
    replace b0 := ((b0.alloc (.cells (Array.replicate n (Bv 0)) 5)).alloc (.cells #[.slice (some ⟨w.heap.size + 1, 0, none⟩) n n] 22)).alloc (.cells #[.slice (some ⟨w.heap.size + 1, 0, none⟩) n n] 22)
    replace b2 := b2.alloc (.cells #[.slice (some ⟨w.heap.size + 1, 0, none⟩) n n] 22)
    have hE : Ext w ((((w.alloc (.cells #[.int .u64 (v : Int)] 101)).alloc (.cells (Array.replicate n (Bv 0)) 5)).alloc (.cells #[.slice (some ⟨w.heap.size + 1, 0, none⟩) n n] 22)).alloc (.cells #[.slice (some ⟨w.heap.size + 1, 0, none⟩) n n] 22)) := (((hW1.alloc _).alloc _).alloc _)
    have hz0 : w.heap.size + 4 = ((((w.alloc (.cells #[.int .u64 (v : Int)] 101)).alloc (.cells (Array.replicate n (Bv 0)) 5)).alloc (.cells #[.slice (some ⟨w.heap.size + 1, 0, none⟩) n n] 22)).alloc (.cells #[.slice (some ⟨w.heap.size + 1, 0, none⟩) n n] 22)).heap.size := by simp
    simp only [World.size_alloc] at b0 r1 b2 b3
    generalize ((((w.alloc (.cells #[.int .u64 (v : Int)] 101)).alloc (.cells (Array.replicate n (Bv 0)) 5)).alloc (.cells #[.slice (some ⟨w.heap.size + 1, 0, none⟩) n n] 22)).alloc (.cells #[.slice (some ⟨w.heap.size + 1, 0, none⟩) n n] 22)) = W0 at *
    clear hW1 b1
    have hcb3 := b3.cell 0
    refine wpIn_rangeFunc_ownF rfl (by omega) (gf := 87) (lb := #[.pointer (some ⟨w.heap.size + 1 + 1 + 1, 0, none⟩)]) rfl trivial (enters_of Try.func87 (by kernel_rfl) rfl)
      (backward_stops Fence.wide (5 - 1) trivial rfl (by omega) (w.heap.size + 1 + 1 + 1) n n ⟨w.heap.size + 1, 0, none⟩ (by omega) W0 (by omega) (by simp; omega) hcb3 (fun j hj => ⟨_, by rw [add_head]; exact r1.cell (i := j) (by simpa using hj)⟩))
      KpRow.trans (fun W l o o' _ hl ho _ => KpRow.book W l o o' hl ho) (Below.refl _ _) (fun _ => rfl)
      (fun pre W => (Blk W w.heap.size 101 #[.int .u64 ((fill (pre.map Down.idx) (List.replicate n 0, v)).2 : Int)] ∧ Row W (w.heap.size + 1) 5 (fill (pre.map Down.idx) (List.replicate n 0, v)).1 ∧
        Blk W (w.heap.size + 1 + 1) 22 #[.slice (some ⟨w.heap.size + 1, 0, none⟩) n n]) ∧ Below w.heap.size w W)
      (fun _ _ _ => False)
      (OwnFrom.and (Own.from (fun s A B row hs hg hr => ⟨hs.1.kept hg hr, Blk.kept hs.2.1 hg hr, hs.2.2.kept hg hr⟩) _) (ownFrom_below (Nat.le_refl _) (by omega)))
      (fun _ _ _ _ _ hs _ _ => hs)
      ⟨⟨b0, r1, b2⟩, hE⟩ ?_ ?_ ?_ ?_ ?_
    rotate_left
    · intro l x W K hK
      gi_wp2
      exact hK
    · rintro l pre x W ⟨⟨h0, hr, h2⟩, hB⟩ _
      have hlen : (fill (pre.map Down.idx) (List.replicate n 0, v)).1.length = n := by rw [fill_length]; simp
      have hle := fill_le (pre.map Down.idx) (List.replicate n 0, v)
      have HP := hide (fill_snoc (pre.map Down.idx) x.idx (List.replicate n 0, v))
      generalize fill (pre.map Down.idx) (List.replicate n 0, v) = p at *
      obtain ⟨pl, pv⟩ := p
      simp only at hr h0 hlen hle HP
      have hx := x.lt
      have hc0 := h0.cell 0
      have hf0 := h0.frozen 0
      have hc1 := hr.cell (i := x.idx) (by omega)
      have hf1 := hr.frozen x.idx
      have hc2 := h2.cell 0
      simp at hc0 hc2
      gi_wp2
      have hr' := (hr.set_ x.idx (UInt8.ofNat pv)).far (p := ⟨w.heap.size, 0, none⟩) (by simp) (.int .u64 ((pv : Int) / 256))
      have h0' := (h0.far (p := ⟨w.heap.size + 1, x.idx, none⟩) (by simp) (.int .u8 ((UInt8.ofNat pv).toNat : Int))).set_ 0 (.int .u64 ((pv : Int) / 256))
      have h2' := (h2.far (p := ⟨w.heap.size + 1, x.idx, none⟩) (by simp) (.int .u8 ((UInt8.ofNat pv).toNat : Int))).far (p := ⟨w.heap.size, 0, none⟩) (by simp; omega) (.int .u64 ((pv : Int) / 256))
      rw [low_byte]
      refine ⟨(KeepsOthers.setCell _ _ _).trans (KeepsOthers.setCell _ _ _), ⟨fun u hu => ?_, fun j hj _ => ?_⟩, ⟨?_, ?_, h2'⟩, ?_⟩
      · rw [World.cell?_setCell_other _ _ _ _ (by simp), World.cell?_setCell_other _ _ _ _ (by simp)]
        exact hu
      · rw [add_head]
        exact ⟨_, Row.cell hr' (i := j) (by rw [List.length_set, hlen]; exact hj)⟩
      · rw [List.map_append, List.map_singleton, HP.out]
        simpa using h0'
      · rw [List.map_append, List.map_singleton, HP.out]
        exact hr'
      · exact (hB.setCell (p := ⟨w.heap.size + 1, x.idx, none⟩) (by simp) _).setCell (p := ⟨w.heap.size, 0, none⟩) (Nat.le_refl _) _
    · rintro D ys W hD hys ⟨⟨h0, hr, h2⟩, hB⟩ hK
      rw [hys, fill_be] at hr
      have hc2 := h2.cell 0
      simp at hc2
      have ho := Row.own (base := w.heap.size) hr (by omega) (by rw [be_length]; unfold maxLen; omega)
      rw [be_length] at ho
      gi_wp2
      refine ⟨by simp, .inl ⟨_, _, rfl, run_takeDeferred hK, ?_⟩⟩
      exact ⟨_, results_tmp2 rfl _ _ _, _, _, rfl, ownsRow_putObj ho _ hK rfl, hB.trans (belowK_b (w := w) (Nat.le_refl _) W D _ _ (by have := hE.size; omega) hK rfl rfl)⟩
    · rintro D c pre W _ _ h _
      exact h.elim
end Go.Proofs.Ytcdacnhggpfnaaa

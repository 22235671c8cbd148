/- The document's Seqs. -/
import Derived.Test.YtiamcdbnhmlhaaaDoorNackSeqs
namespace Go.Proofs.YtiamcdbnhmlhaaaDoor
open Go.RowKit
theorem told_val2 (pid : UInt16) (k : Nat) : ((told pid k).toNat : Int) = IntKind.u16.wrap (IntKind.u16.wrap ((pid.toNat : Int) + (k : Int)) + 1) := by
  rw [IntKind.wrap_u16, IntKind.wrap_u16]
  unfold told
  simp only [UInt16.toNat_add, UInt16.toNat_ofNat', UInt16.toNat_one]
  omega
set_option maxRecDepth 100000 in
set_option maxHeartbeats 1000000 in
theorem rseqs_any (A : Option Addr) (n c : Nat) (l : List Pr) (w : World) (h : Els ePr w A n c l) (hn : n ≤ 16777216) : Calls Tryd.prog 10 #[.slice A n c] w fun e w' =>
    ∃ A' c', e = .returned (.slice A' (tells l).length c') ∧ w'.ownsRow w.heap.size 39 1 (.slice A' (tells l).length c') (tells l).length (e16.cells (tells l)) ∧ Ext w w' := by
  obtain ⟨T⟩ := ty16
  have hlen := h.len
  have hnc := h.le
  have hcm := h.reach
  go_enter Tryd.func10, Tryd.ntmps10
  go_wp2_with fail
  go_loopw [3, 4] (fun v i wr => ∃ (j : Nat) (A' : Option Addr) (c' : Nat), j ≤ n ∧ i = .int .i64 j ∧ v = .slice A' (tells (l.take j)).length c' ∧ wr.ownsRow w.heap.size 39 1 (.slice A' (tells (l.take j)).length c') (tells (l.take j)).length (e16.cells (tells (l.take j))) ∧ Ext w wr) (fun _ i _ => n - (intOf i).toNat)
  case atStart => exact ⟨0, none, 0, Nat.zero_le _, rfl, rfl, World.ownsRow_nil _ _ _ _, Ext.refl _⟩
  case round =>
    obtain ⟨j, A', c', hj, rfl, rfl, hown, hE⟩ := hrel
    by_cases hlt : j < n
    · have hjl : j < l.length := by omega
      obtain ⟨g, o, rfl, hg, hcell⟩ := h.pr (by omega)
      obtain ⟨hc0, hc1⟩ := hcell j hjl
      have hl17 := tells_len (l.take j)
      have hlj : (l.take j).length ≤ n := by rw [List.length_take]; omega
      have hts := tells_take l j hjl
      generalize tells (l.take j) = L at hown hl17 hts ⊢
      generalize l[j] = q at hc0 hc1 hts
      obtain ⟨pid, mask⟩ := q
      clear hcell
      have hC0 := hide hc0
      have hC1 := hide hc1
      have hr0 := (hE.cell (p := ⟨g, o + j * 2, none⟩) hg).trans hc0
      clear hc0 hc1
      have hap := own_apart hown (Nat.le_refl _)
      go_wp2_with (at_builtin; refine wpList_appE T w _ _ rfl rfl (hE.alloc _) A' L.length c' L rfl (hown.alloc _) _ 1 1 [pid] rfl (Els.lit_at (by simp) [pid] 39 1 (e16_cells_one pid) rfl (by omega)) (by omega) ?_; intro A2 c2 w2 hown2 hE2 hk2; have hr1 := (hE2.cell (p := ⟨g, o + j * 2 + 1, none⟩) hg).trans hC1.out)
      clear hk2 hown hr0 hE hr1
      have hmask := mask.toNat_lt
      go_loopw [3, 5, 6] (fun v m i wx => ∃ (x k : Nat) (ks : List Nat) (A' : Option Addr) (c' : Nat), x < 65536 ∧ k ≤ 16 ∧ m = .int .u16 x ∧ i = .int .u16 k ∧ bits16 mask.toNat = ks ++ bitsFrom (16 - k) k x ∧ v = .slice A' (L.length + 1 + ks.length) c' ∧ wx.ownsRow w.heap.size 39 1 (.slice A' (L.length + 1 + ks.length) c') (L.length + 1 + ks.length) (e16.cells (L ++ [pid] ++ ks.map (told pid))) ∧ Ext w wx) (fun _ _ i _ => 16 - (intOf i).toNat)
      case atStart => exact ⟨mask.toNat, 0, [], A2, c2, hmask, by omega, rfl, rfl, rfl, rfl, by rw [List.length_nil, Nat.add_zero, List.map_nil, List.append_nil]; exact hown2, hE2⟩
      case round =>
        clear hown2 hE2
        obtain ⟨x, k, ks, A3, c3, hx, hk, rfl, rfl, hbits, rfl, hown3, hE3⟩ := hrel
        by_cases h0 : k < 16
        · obtain ⟨f, hf⟩ : ∃ f, 16 - k = f + 1 := ⟨15 - k, by omega⟩
          rw [hf, bitsFrom] at hbits
          have hf2 : 16 - (k + 1) = f := by omega
          have hks2 : ks.length ≤ 16 := by
            have : (bits16 mask.toNat).length ≤ 16 := bitsFrom_len 16 0 mask.toNat
            rw [hbits, List.length_append] at this
            omega
          have hwk : IntKind.u16.wrap ((k : Int) + 1) = ((k + 1 : Nat) : Int) := by rw [IntKind.wrap_u16]; omega
          by_cases h1 : x % 2 = 1
          · rw [if_pos h1] at hbits
            have h2 : ((x : Int) % 2 == 1) = true := by rw [beq_iff_eq]; omega
            have hr0 := (hE3.cell (p := ⟨g, o + j * 2, none⟩) hg).trans hC0.out
            have e1 : (ks ++ [k]).length = ks.length + 1 := by simp
            have hval := told_val2 pid k
            go_wp2_with (at_builtin; refine wpList_appE T w _ _ rfl rfl (hE3.alloc _) A3 _ c3 _ rfl (hown3.alloc _) _ 1 1 [told pid k] rfl (Els.lit_at (by simp) [told pid k] 39 1 (by rw [e16_cells_one, hval]) rfl (by omega)) (by omega) ?_; intro A4 c4 w4 hown4 hE4 hk4)
            rw [List.append_assoc, show List.map (told pid) ks ++ [told pid k] = List.map (told pid) (ks ++ [k]) by simp] at hown4
            go_roundw
            case rel => exact ⟨x / 2, k + 1, ks ++ [k], A4, c4, by omega, by omega, by go_num, by go_num, by rw [hbits, hf2]; simp, by rw [e1]; rfl, by rw [e1]; exact hown4, hE4⟩
            case measure => simp [intOf]; omega
          · rw [if_neg h1] at hbits
            have h2 : ((x : Int) % 2 == 1) = false := by rw [beq_eq_false_iff_ne]; omega
            go_wp2_with fail
            go_roundw
            case rel => exact ⟨x / 2, k + 1, ks, A3, c3, by omega, by omega, by go_num, by go_num, by rw [hbits, hf2], rfl, hown3, hE3⟩
            case measure => simp [intOf]; omega
        · obtain rfl : k = 16 := by omega
          rw [show (16 : Nat) - 16 = 0 from rfl, bitsFrom, List.append_nil] at hbits
          have htl : tells (l.take (j + 1)) = L ++ [pid] ++ ks.map (told pid) := by
            rw [hts, ← hbits]
            simp [tell]
          have hll : (tells (l.take (j + 1))).length = L.length + 1 + ks.length := by
            rw [htl]; simp; omega
          go_wp2_with fail
          go_roundw
          case rel => exact ⟨j + 1, A3, c3, by omega, by go_num, by rw [hll], by rw [hll, htl]; exact hown3, hE3⟩
          case measure => simp [intOf]; omega
    · obtain rfl : j = n := by omega
      rw [← hlen, List.take_length] at hown ⊢
      go_wp2_with fail
      go_ret
      exact ⟨A', c', rfl, hown, hE⟩
end Go.Proofs.YtiamcdbnhmlhaaaDoor

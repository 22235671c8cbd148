/- The document's Read. -/
import Derived.Test.YtiamcdbnhmlhaaaDoorNackPairs2
import Derived.Test.YtiamcdbnhmlhaaaDoorPlainNackW
import Derived.Test.YtiamcdbnhmlhaaaDoorReg
import Derived.Deep.DeepCutAuto
import Derived.BigQuiet
namespace Go.Proofs.YtiamcdbnhmlhaaaDoor
open Go.RowKit
def prAt (b : List UInt8) (i : Nat) : Pr := (UInt16.ofNat (256 * (b.getD i 0).toNat + (b.getD (i + 1) 0).toNat), UInt16.ofNat (256 * (b.getD (i + 2) 0).toNat + (b.getD (i + 3) 0).toNat))
theorem rd_take (b : List UInt8) (j : Nat) (h : 4 * j + 4 ≤ b.length) : rd (b.take (4 * (j + 1))) = rd (b.take (4 * j)) ++ [prAt b (4 * j)] := by
  have e1 : b.take (4 * (j + 1)) = b.take (4 * j) ++ (b.drop (4 * j)).take 4 := by rw [show 4 * (j + 1) = 4 * j + 4 by omega, List.take_add]
  rw [e1, rd_append _ _ (by rw [List.length_take]; omega)]
  congr 1
  have hl : ((b.drop (4 * j)).take 4).length = 4 := by rw [List.length_take, List.length_drop]; omega
  obtain ⟨x0, x1, x2, x3, hx⟩ : ∃ x0 x1 x2 x3, (b.drop (4 * j)).take 4 = [x0, x1, x2, x3] := by
    match (b.drop (4 * j)).take 4, hl with
    | [x0, x1, x2, x3], _ => exact ⟨x0, x1, x2, x3, rfl⟩
  have hk : ∀ k, k < 4 → b.getD (4 * j + k) 0 = [x0, x1, x2, x3].getD k 0 := by
    intro k hk
    rw [← hx, List.getD_eq_getElem?_getD, List.getD_eq_getElem?_getD, List.getElem?_take, if_pos hk, List.getElem?_drop]
  have h0 := hk 0 (by omega)
  have h1 := hk 1 (by omega)
  have h2 := hk 2 (by omega)
  have h3 := hk 3 (by omega)
  simp only [Nat.add_zero, List.getD_cons_zero, List.getD_cons_succ] at h0 h1 h2 h3
  unfold prAt
  rw [hx, h0, h1, h2, h3]
  rfl
theorem prAt_cells (b : List UInt8) (i : Nat) : ePr.cells [prAt b i] = [.int .u16 (IntKind.u16.wrap (IntKind.u16.wrap (256 * IntKind.u16.wrap ((b.getD i 0).toNat : Int)) + IntKind.u16.wrap ((b.getD (i + 1) 0).toNat : Int))), .int .u16 (IntKind.u16.wrap (IntKind.u16.wrap (256 * IntKind.u16.wrap ((b.getD (i + 2) 0).toNat : Int)) + IntKind.u16.wrap ((b.getD (i + 3) 0).toNat : Int)))] := by
  rw [ePr_cells_one]
  unfold prAt
  have h0 := (b.getD i 0).toNat_lt
  have h1 := (b.getD (i + 1) 0).toNat_lt
  have h2 := (b.getD (i + 2) 0).toNat_lt
  have h3 := (b.getD (i + 3) 0).toNat_lt
  simp only [UInt16.toNat_ofNat', IntKind.wrap_u16, List.cons.injEq, and_true, Value.int.injEq, true_and]
  omega
theorem rd_take_len (b : List UInt8) (j : Nat) (h : 4 * j ≤ b.length) : (rd (b.take (4 * j))).length = j := by
  have := rd_len (b.take (4 * j)) (by rw [List.length_take]; omega)
  rw [List.length_take] at this
  omega
theorem bcell {w : World} {g o n c : Nat} {b : List UInt8} (h : Bytes w (some ⟨g, o, none⟩) n c b) (k : Nat) (hn : k < n) : w.cell? ⟨g, o + k, none⟩ = some (.int .u8 ((b.getD k 0).toNat : Int)) := by
  have h1 := h.cell hn
  rw [add_base] at h1
  rw [h1]
  simp [List.getD, show k < b.length by rw [h.len]; exact hn]
theorem bplain {w : World} {A : Option Addr} {n c : Nat} {b : List UInt8} (h : Bytes w A n c b) (hn : 0 < n) : ∃ g o, A = some ⟨g, o, none⟩ ∧ g < w.heap.size := by
  obtain ⟨⟨g, o, sp⟩, rfl, hg⟩ := h.addr hn
  have h1 := h.cell (k := 0) hn
  have hs : sp = none := by simpa [Addr.add] using World.cell?_spot h1
  subst hs
  exact ⟨g, o, rfl, hg⟩
set_option maxRecDepth 100000 in
set_option maxHeartbeats 1000000 in
theorem rread_any (A : Option Addr) (n c : Nat) (b : List UInt8) (w : World) (h : Bytes w A n c b) : Calls Tryd.prog 17 #[.slice A n c] w fun e w' =>
    ∃ A' c', e = .returned (.tuple #[.slice A' (rL b).length c', .int .i64 (rE b)]) ∧ w'.ownsRow w.heap.size 41 2 (.slice A' (rL b).length c') (rL b).length (ePr.cells (rL b)) ∧ Ext w w' := by
  obtain ⟨T⟩ := tyPr
  have hlen := h.len
  have hnc := h.le
  have hcm := h.reach
  by_cases h1 : 65520 < n
  · have e1 : rE b = 4 := by unfold rE; rw [if_pos (by omega)]
    have e2 : rL b = [] := by unfold rL; rw [e1]; rfl
    rw [e1, e2]
    go_enter Tryd.func17, Tryd.ntmps17
    go_wp2_with fail
    go_ret2
    exact ⟨none, 0, rfl, World.ownsRow_nil _ _ _ _, Ext.refl _⟩
  · by_cases h2 : n % 4 = 0
    · have h3 : ((n : Int) % 4 != 0) = false := by rw [bne_eq_false_iff_eq]; omega
      by_cases h0 : n = 0
      · subst h0
        have e1 : rE b = 2 := by unfold rE; rw [if_neg (by omega), if_pos hlen]
        have e2 : rL b = [] := by unfold rL; rw [e1]; rfl
        rw [e1, e2]
        go_enter Tryd.func17, Tryd.ntmps17
        go_wp2_with fail
        go_ret2
        exact ⟨none, 0, rfl, World.ownsRow_nil _ _ _ _, Ext.refl _⟩
      · have e1 : rE b = 0 := by unfold rE; rw [if_neg (by omega), if_neg (by omega)]
        have e2 : rL b = rd b := by unfold rL; rw [e1]; rfl
        rw [e1, e2]
        obtain ⟨g, o, rfl, hg⟩ := bplain h (by omega)
        have hn0 : ((n : Int) == 0) = false := by rw [beq_eq_false_iff_ne]; omega
        go_enter Tryd.func17, Tryd.ntmps17
        go_wp2_with fail
        go_loopw [4, 5] (fun v i wr => ∃ (j : Nat) (A' : Option Addr) (c' : Nat), 4 * j ≤ n ∧ i = .int .i64 ((4 * j : Nat) : Int) ∧ v = .slice A' j c' ∧ wr.ownsRow w.heap.size 41 2 (.slice A' j c') j (ePr.cells (rd (b.take (4 * j)))) ∧ Ext w wr) (fun _ i _ => n - (intOf i).toNat)
        case atStart => exact ⟨0, none, 0, Nat.zero_le _, rfl, rfl, World.ownsRow_nil _ _ _ _, Ext.refl _⟩
        case round =>
          obtain ⟨j, A', c', hj, rfl, rfl, hown, hE⟩ := hrel
          by_cases hlt : 4 * j < n
          · have hts := rd_take b j (by omega)
            have hcl := prAt_cells b (4 * j)
            generalize rd (b.take (4 * j)) = L at hown hts ⊢
            generalize prAt b (4 * j) = q at hts hcl
            have f0 := fun W (hW : Ext w W) => bcell (h.ext hW) (4 * j) (by omega)
            have f1 := fun W (hW : Ext w W) => bcell (h.ext hW) (4 * j + 1) (by omega)
            have f2 := fun W (hW : Ext w W) => bcell (h.ext hW) (4 * j + 2) (by omega)
            have f3 := fun W (hW : Ext w W) => bcell (h.ext hW) (4 * j + 3) (by omega)
            obtain ⟨i, hi⟩ : ∃ i, 4 * j = i := ⟨_, rfl⟩
            rw [hi] at f0 f1 f2 f3 hcl hlt ⊢
            have hl0 : (i : Int) < (n : Int) := by omega
            have hw1 : IntKind.i64.wrap ((i : Int) + 1) = ((i + 1 : Nat) : Int) := by rw [IntWalk.i64_in _ (by omega)]; omega
            have hw2 : IntKind.i64.wrap ((i : Int) + 2) = ((i + 2 : Nat) : Int) := by rw [IntWalk.i64_in _ (by omega)]; omega
            have hw3 : IntKind.i64.wrap ((i : Int) + 3) = ((i + 3 : Nat) : Int) := by rw [IntWalk.i64_in _ (by omega)]; omega
            have hl1 : (i : Int) + 1 < (n : Int) := by omega
            have hp1 : 0 ≤ (i : Int) + 1 := by omega
            have hl2 : (i : Int) + 2 < (n : Int) := by omega
            have hp2 : 0 ≤ (i : Int) + 2 := by omega
            have hl3 : (i : Int) + 3 < (n : Int) := by omega
            have hp3 : 0 ≤ (i : Int) + 3 := by omega
            have ht2 : ((i : Int) + 2).toNat = i + 2 := by omega
            have ht3 : ((i : Int) + 3).toNat = i + 3 := by omega
            generalize b.getD i 0 = x0 at f0 hcl
            generalize b.getD (i + 1) 0 = x1 at f1 hcl
            generalize b.getD (i + 2) 0 = x2 at f2 hcl
            generalize b.getD (i + 3) 0 = x3 at f3 hcl
            have HI := hide hi
            clear hi h e1 e2
            go_upto_region 9 with fail
            refine regE_start_at (hE) (by kernel_rfl) ?_
            refine regE_take (i := 0) (v := ?_) rfl (by kernel_rfl) (by kernel_rfl) (by kernel_rfl) (fun _ _ _ h => h) (by rfl) ?_ ?_
            rotate_left
            · intro W hW; go_simp; try with_reducible rfl
            simp only [Act.put, List.setIfInBounds_toArray, List.set_cons_zero, List.set_cons_succ]
            refine regE_take (i := 1) (v := ?_) rfl (by kernel_rfl) (by kernel_rfl) (by kernel_rfl) (fun _ _ _ h => h) (by rfl) ?_ ?_
            rotate_left
            · intro W hW; go_simp; try with_reducible rfl
            simp only [Act.put, List.setIfInBounds_toArray, List.set_cons_zero, List.set_cons_succ]
            refine regE_take (i := 2) (v := ?_) rfl (by kernel_rfl) (by kernel_rfl) (by kernel_rfl) (fun _ _ _ h => h) (by rfl) ?_ ?_
            rotate_left
            · intro W hW; go_simp; try with_reducible rfl
            simp only [Act.put, List.setIfInBounds_toArray, List.set_cons_zero, List.set_cons_succ]
            refine regE_take (i := 3) (v := ?_) rfl (by kernel_rfl) (by kernel_rfl) (by kernel_rfl) (fun _ _ _ h => h) (by rfl) ?_ ?_
            rotate_left
            · intro W hW; go_simp; try with_reducible rfl
            simp only [Act.put, List.setIfInBounds_toArray, List.set_cons_zero, List.set_cons_succ]
            refine regE_take (i := 4) (v := ?_) rfl (by kernel_rfl) (by kernel_rfl) (by kernel_rfl) (fun _ _ _ h => h) (by rfl) ?_ ?_
            rotate_left
            · intro W hW; go_simp; try with_reducible rfl
            simp only [Act.put, List.setIfInBounds_toArray, List.set_cons_zero, List.set_cons_succ]
            refine regE_take (i := 5) (v := ?_) rfl (by kernel_rfl) (by kernel_rfl) (by kernel_rfl) (fun _ _ _ h => h) (by rfl) ?_ ?_
            rotate_left
            · intro W hW; go_simp; try with_reducible rfl
            simp only [Act.put, List.setIfInBounds_toArray, List.set_cons_zero, List.set_cons_succ]
            refine regE_take (i := 6) (v := ?_) rfl (by kernel_rfl) (by kernel_rfl) (by kernel_rfl) (fun _ _ _ h => h) (by rfl) ?_ ?_
            rotate_left
            · intro W hW; go_simp; try with_reducible rfl
            simp only [Act.put, List.setIfInBounds_toArray, List.set_cons_zero, List.set_cons_succ]
            refine regE_take (i := 7) (v := ?_) rfl (by kernel_rfl) (by kernel_rfl) (by kernel_rfl) (fun _ _ _ h => h) (by rfl) ?_ ?_
            rotate_left
            · intro W hW; go_simp; try with_reducible rfl
            simp only [Act.put, List.setIfInBounds_toArray, List.set_cons_zero, List.set_cons_succ]
            refine regE_take (i := 8) (v := ?_) rfl (by kernel_rfl) (by kernel_rfl) (by kernel_rfl) (fun _ _ _ h => h) (by rfl) ?_ ?_
            rotate_left
            · intro W hW; go_simp; try with_reducible rfl
            simp only [Act.put, List.setIfInBounds_toArray, List.set_cons_zero, List.set_cons_succ]
            refine regE_take (i := 9) (v := ?_) rfl (by kernel_rfl) (by kernel_rfl) (by kernel_rfl) (fun _ _ _ h => h) (by rfl) ?_ ?_
            rotate_left
            · intro W hW; go_simp; try with_reducible rfl
            simp only [Act.put, List.setIfInBounds_toArray, List.set_cons_zero, List.set_cons_succ]
            refine regE_take (i := 10) (v := ?_) rfl (by kernel_rfl) (by kernel_rfl) (by kernel_rfl) (fun _ _ _ h => h) (by rfl) ?_ ?_
            rotate_left
            · intro W hW; go_simp; try with_reducible rfl
            simp only [Act.put, List.setIfInBounds_toArray, List.set_cons_zero, List.set_cons_succ]
            refine regE_take (i := 11) (v := ?_) rfl (by kernel_rfl) (by kernel_rfl) (by kernel_rfl) (fun _ _ _ h => h) (by rfl) ?_ ?_
            rotate_left
            · intro W hW; go_simp; try with_reducible rfl
            simp only [Act.put, List.setIfInBounds_toArray, List.set_cons_zero, List.set_cons_succ]
            refine regE_take (i := 12) (v := ?_) rfl (by kernel_rfl) (by kernel_rfl) (by kernel_rfl) (fun _ _ _ h => h) (by rfl) ?_ ?_
            rotate_left
            · intro W hW; go_simp; try with_reducible rfl
            simp only [Act.put, List.setIfInBounds_toArray, List.set_cons_zero, List.set_cons_succ]
            refine regE_take (i := 13) (v := ?_) rfl (by kernel_rfl) (by kernel_rfl) (by kernel_rfl) (fun _ _ _ h => h) (by rfl) ?_ ?_
            rotate_left
            · intro W hW; go_simp; try with_reducible rfl
            simp only [Act.put, List.setIfInBounds_toArray, List.set_cons_zero, List.set_cons_succ]
            refine regE_take (i := 14) (v := ?_) rfl (by kernel_rfl) (by kernel_rfl) (by kernel_rfl) (fun _ _ _ h => h) (by rfl) ?_ ?_
            rotate_left
            · intro W hW; go_simp; try with_reducible rfl
            simp only [Act.put, List.setIfInBounds_toArray, List.set_cons_zero, List.set_cons_succ]
            refine regE_take (i := 15) (v := ?_) rfl (by kernel_rfl) (by kernel_rfl) (by kernel_rfl) (fun _ _ _ h => h) (by rfl) ?_ ?_
            rotate_left
            · intro W hW; go_simp; try with_reducible rfl
            simp only [Act.put, List.setIfInBounds_toArray, List.set_cons_zero, List.set_cons_succ]
            refine regE_take (i := 16) (v := ?_) rfl (by kernel_rfl) (by kernel_rfl) (by kernel_rfl) (fun _ _ _ h => h) (by rfl) ?_ ?_
            rotate_left
            · intro W hW; go_simp; try with_reducible rfl
            simp only [Act.put, List.setIfInBounds_toArray, List.set_cons_zero, List.set_cons_succ]
            refine regE_take (i := 17) (v := ?_) rfl (by kernel_rfl) (by kernel_rfl) (by kernel_rfl) (fun _ _ _ h => h) (by rfl) ?_ ?_
            rotate_left
            · intro W hW; go_simp; try with_reducible rfl
            simp only [Act.put, List.setIfInBounds_toArray, List.set_cons_zero, List.set_cons_succ]
            refine regE_take (i := 18) (v := ?_) rfl (by kernel_rfl) (by kernel_rfl) (by kernel_rfl) (fun _ _ _ h => h) (by rfl) ?_ ?_
            rotate_left
            · intro W hW; go_simp; try with_reducible rfl
            simp only [Act.put, List.setIfInBounds_toArray, List.set_cons_zero, List.set_cons_succ]
            refine regE_take (i := 19) (v := ?_) rfl (by kernel_rfl) (by kernel_rfl) (by kernel_rfl) (fun _ _ _ h => h) (by rfl) ?_ ?_
            rotate_left
            · intro W hW; go_simp; try with_reducible rfl
            simp only [Act.put, List.setIfInBounds_toArray, List.set_cons_zero, List.set_cons_succ]
            refine regE_take (i := 20) (v := ?_) rfl (by kernel_rfl) (by kernel_rfl) (by kernel_rfl) (fun _ _ _ h => h) (by rfl) ?_ ?_
            rotate_left
            · intro W hW; go_simp; try with_reducible rfl
            simp only [Act.put, List.setIfInBounds_toArray, List.set_cons_zero, List.set_cons_succ]
            refine regE_take (i := 21) (v := ?_) rfl (by kernel_rfl) (by kernel_rfl) (by kernel_rfl) (fun _ _ _ h => h) (by rfl) ?_ ?_
            rotate_left
            · intro W hW; go_simp; try with_reducible rfl
            simp only [Act.put, List.setIfInBounds_toArray, List.set_cons_zero, List.set_cons_succ]
            refine regE_take (i := 22) (v := ?_) rfl (by kernel_rfl) (by kernel_rfl) (by kernel_rfl) (fun _ _ _ h => h) (by rfl) ?_ ?_
            rotate_left
            · intro W hW; go_simp; try with_reducible rfl
            simp only [Act.put, List.setIfInBounds_toArray, List.set_cons_zero, List.set_cons_succ]
            refine regE_take (i := 23) (v := ?_) rfl (by kernel_rfl) (by kernel_rfl) (by kernel_rfl) (fun _ _ _ h => h) (by rfl) ?_ ?_
            rotate_left
            · intro W hW; go_simp; try with_reducible rfl
            simp only [Act.put, List.setIfInBounds_toArray, List.set_cons_zero, List.set_cons_succ]
            refine regE_take (i := 24) (v := ?_) rfl (by kernel_rfl) (by kernel_rfl) (by kernel_rfl) (fun _ _ _ h => h) (by rfl) ?_ ?_
            rotate_left
            · intro W hW; go_simp; try with_reducible rfl
            simp only [Act.put, List.setIfInBounds_toArray, List.set_cons_zero, List.set_cons_succ]
            refine regE_take (i := 25) (v := ?_) rfl (by kernel_rfl) (by kernel_rfl) (by kernel_rfl) (fun _ _ _ h => h) (by rfl) ?_ ?_
            rotate_left
            · intro W hW; go_simp; try with_reducible rfl
            simp only [Act.put, List.setIfInBounds_toArray, List.set_cons_zero, List.set_cons_succ]
            refine regE_take (i := 26) (v := ?_) rfl (by kernel_rfl) (by kernel_rfl) (by kernel_rfl) (fun _ _ _ h => h) (by rfl) ?_ ?_
            rotate_left
            · intro W hW; go_simp; try with_reducible rfl
            simp only [Act.put, List.setIfInBounds_toArray, List.set_cons_zero, List.set_cons_succ]
            refine regE_take (i := 27) (v := ?_) rfl (by kernel_rfl) (by kernel_rfl) (by kernel_rfl) (fun _ _ _ h => h) (by rfl) ?_ ?_
            rotate_left
            · intro W hW; go_simp; try with_reducible rfl
            simp only [Act.put, List.setIfInBounds_toArray, List.set_cons_zero, List.set_cons_succ]
            refine regE_take (i := 28) (v := ?_) rfl (by kernel_rfl) (by kernel_rfl) (by kernel_rfl) (fun _ _ _ h => h) (by rfl) ?_ ?_
            rotate_left
            · intro W hW; go_simp; try with_reducible rfl
            simp only [Act.put, List.setIfInBounds_toArray, List.set_cons_zero, List.set_cons_succ]
            refine regE_do (i := 29) rfl (by kernel_rfl) (fun K hK => ?_)
            rw [if_pos (by rfl)]
            go_simp
            refine hK.out _ _ (hE.drew.alloc _) ?_
            clear hK K
            try simp only [Act.put, List.setIfInBounds_toArray, List.set_cons_zero, List.set_cons_succ]
            refine regE_do (i := 30) rfl (by kernel_rfl) (fun K hK => ?_)
            rw [if_pos (by rfl)]
            refine wp_appE T w _ _ rfl (hE.drew.alloc _) A' j c' L rfl (hown.drew.alloc _) _ 1 1 [q] rfl (Els.lit_at rfl [q] 41 1 hcl rfl (by omega)) (by omega) ?_
            intro A2 c2 w2 hown2 hE2 hk2
            refine hK.out _ _ hE2 ?_
            clear hK K
            try simp only [Act.put, List.setIfInBounds_toArray, List.set_cons_zero, List.set_cons_succ]
            refine regE_take (i := 31) (v := ?_) rfl (by kernel_rfl) (by kernel_rfl) (by kernel_rfl) (fun _ _ _ h => h) (by rfl) ?_ ?_
            rotate_left
            · intro W hW; go_simp; try with_reducible rfl
            simp only [Act.put, List.setIfInBounds_toArray, List.set_cons_zero, List.set_cons_succ]
            refine regE_done (by kernel_rfl) ?_
            go_wp2_with fail
            go_roundw
            case rel => exact ⟨j + 1, A2, c2, by have := HI.out; omega, by rw [show ((4 * (j + 1) : Nat) : Int) = (i : Int) + 4 by have := HI.out; omega], rfl, by rw [hts]; exact hown2, hE2⟩
            case measure => simp [intOf]; omega
          · obtain hjn : 4 * j = n := by omega
            rw [List.take_of_length_le (by omega)] at hown
            have hjl : (rd b).length = j := by
              have := rd_len b (by omega)
              omega
            go_wp2_with fail
            go_ret2
            exact ⟨A', c', by rw [hjl]; rfl, by rw [hjl]; exact hown, hE⟩
    · have e1 : rE b = 4 := by unfold rE; rw [if_pos (by omega)]
      have e2 : rL b = [] := by unfold rL; rw [e1]; rfl
      have h3 : ((n : Int) % 4 != 0) = true := by rw [bne_iff_ne]; omega
      rw [e1, e2]
      go_enter Tryd.func17, Tryd.ntmps17
      go_wp2_with fail
      go_ret2
      exact ⟨none, 0, rfl, World.ownsRow_nil _ _ _ _, Ext.refl _⟩
end Go.Proofs.YtiamcdbnhmlhaaaDoor

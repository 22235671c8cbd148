/- nack.Seqs: what pairs tell. -/
import Derived.Test.YtiamcdbnhmlhaaaDoorNackA
import Derived.Deep.RegionWith
import Derived.BigQuiet
namespace Go.Proofs.YtiamcdbnhmlhaaaDoor
open Go.RowKit
theorem e16_cells_one (x : UInt16) : e16.cells [x] = [.int .u16 (x.toNat : Int)] := rfl
theorem tells_take (l : List Pr) (j : Nat) (h : j < l.length) : tells (l.take (j + 1)) = tells (l.take j) ++ tell l[j] := by
  rw [List.take_succ_eq_append_getElem h, tells_append]
  simp [tells]
theorem told_val (pid : UInt16) (k : Nat) : ((told pid k).toNat : Int) = IntKind.u16.wrap (IntKind.u16.wrap ((pid.toNat : Int) + 1) + IntKind.u16.wrap (k : Int)) := by
  rw [IntKind.wrap_u16, IntKind.wrap_u16, IntKind.wrap_u16]
  unfold told
  simp only [UInt16.toNat_add, UInt16.toNat_ofNat', UInt16.toNat_one]
  omega
def SqS (w : World) (B : Nat) (pid mask : UInt16) (W : World) : Prop := Ext w W ∧ Blk W B 41 #[.int .u16 (pid.toNat : Int), .int .u16 (mask.toNat : Int)]
theorem SqS.pid {w : World} {B : Nat} {pid mask : UInt16} {W : World} (h : SqS w B pid mask W) : W.cell? ⟨B, 0, none⟩ = some (.int .u16 (pid.toNat : Int)) := h.2.cell 0
set_option maxRecDepth 100000 in
set_option maxHeartbeats 1000000 in
theorem seqs_any (A : Option Addr) (n c : Nat) (l : List Pr) (w : World) (h : Els ePr w A n c l) (hn : n ≤ 16777216) (ht : Tab w) : Calls Tryd.prog 9 #[.slice A n c] w fun e w' =>
    ∃ A' c', e = .returned (.slice A' (tells l).length c') ∧ w'.ownsRow w.heap.size 39 1 (.slice A' (tells l).length c') (tells l).length (e16.cells (tells l)) ∧ Ext w w' := by
  obtain ⟨T⟩ := ty16
  have hlen := h.len
  have hnc := h.le
  have hcm := h.reach
  go_enter Tryd.func9, Tryd.ntmps9
  go_wp2_with fail
  go_loopw [3, 9] (fun v i wr => ∃ (j : Nat) (A' : Option Addr) (c' : Nat), j ≤ n ∧ i = .int .i64 j ∧ v = .slice A' (tells (l.take j)).length c' ∧ wr.ownsRow w.heap.size 39 1 (.slice A' (tells (l.take j)).length c') (tells (l.take j)).length (e16.cells (tells (l.take j))) ∧ Ext w wr) (fun _ i _ => n - (intOf i).toNat)
  case atStart => exact ⟨0, none, 0, Nat.zero_le _, rfl, rfl, World.ownsRow_nil _ _ _ _, Ext.refl _⟩
  case round =>
    obtain ⟨j, A', c', hj, rfl, rfl, hown, hE⟩ := hrel
    by_cases hlt : j < n
    · have hjl : j < l.length := by omega
      obtain ⟨g, o, rfl, hg, hcell⟩ := (h.ext hE).pr (by omega)
      obtain ⟨hc0, hc1⟩ := hcell j hjl
      have hl17 := tells_len (l.take j)
      have hlj : (l.take j).length ≤ n := by rw [List.length_take]; omega
      have hts := tells_take l j hjl
      generalize tells (l.take j) = L at hown hl17 hts ⊢
      generalize l[j] = q at hc0 hc1 hts
      obtain ⟨pid, mask⟩ := q
      clear hcell
      have hbx := (Blk.new wr 41 #[.int .u16 (pid.toNat : Int), .int .u16 (mask.toNat : Int)]).alloc (.cells #[.int .u16 (pid.toNat : Int)] 39)
      have hap := own_apart hown (Nat.le_refl _)
      go_wp2_with (at_builtin; refine wpList_appE T w _ _ rfl rfl ((hE.alloc _).alloc _) A' L.length c' L rfl ((hown.alloc _).alloc _) _ 1 1 [pid] rfl (Els.lit_at (by simp) [pid] 39 1 (e16_cells_one pid) rfl (by omega)) (by omega) ?_; intro A2 c2 w2 hown2 hE2 hk2; obtain ⟨hbx2, hap2⟩ := hk2.blk hbx hap; have hm2 : w2.cell? ⟨wr.heap.size, 1, none⟩ = some (.int .u16 (mask.toNat : Int)) := hbx2.cell 1)
      obtain ⟨B, hB⟩ : ∃ B, wr.heap.size = B := ⟨_, rfl⟩
      have hBw : w.heap.size ≤ B := by rw [← hB]; exact hE.size
      rw [hB] at hbx2 hap2 ⊢
      clear hk2 hm2 hbx hap hown hc0 hc1 hB hg hE
      have hmask := mask.toNat_lt
      go_loopw [3, 6] (fun v m wx => ∃ (x : Nat) (ks : List Nat) (A' : Option Addr) (c' : Nat), x < 65536 ∧ m = .int .u16 x ∧ bits16 mask.toNat = ks ++ bits16 x ∧ v = .slice A' (L.length + 1 + ks.length) c' ∧ wx.ownsRow w.heap.size 39 1 (.slice A' (L.length + 1 + ks.length) c') (L.length + 1 + ks.length) (e16.cells (L ++ [pid] ++ ks.map (told pid))) ∧ Ext w wx ∧ Blk wx B 41 #[.int .u16 (pid.toNat : Int), .int .u16 (mask.toNat : Int)] ∧ (Value.slice A' (L.length + 1 + ks.length) c').ownBlock ≠ some B) (fun _ m _ => (intOf m).toNat)
      case atStart => exact ⟨mask.toNat, [], A2, c2, hmask, rfl, rfl, rfl, by rw [List.length_nil, Nat.add_zero, List.map_nil, List.append_nil]; exact hown2, hE2, hbx2, hap2⟩
      case round =>
        clear hown2 hE2 hbx2 hap2
        obtain ⟨x, ks, A3, c3, hx, rfl, hbits, rfl, hown3, hE3, hbx3, hap3⟩ := hrel
        by_cases h0 : 0 < x
        · obtain ⟨k, hk, hb1, hb2, hb3, hb4⟩ := low16 x h0 hx
          have hks := bitsFrom_len 16 0 mask.toNat
          have hks2 : ks.length ≤ 16 := by
            have : (bits16 mask.toNat).length ≤ 16 := hks
            rw [hbits, List.length_append] at this
            omega
          go_wp2_with fail
          have f0 := fun W (hW : SqS w B pid mask W) => hW.pid
          refine regS_start (S := SqS w B pid mask) (⟨hE3.drew, hbx3.drew⟩) (by kernel_rfl) ?_
          refine regS_take (i := 0) (v := ?_) rfl (by kernel_rfl) (by kernel_rfl) (by kernel_rfl) (fun _ _ _ h => h) (by rfl) ?_ ?_
          rotate_left
          · intro W hW; go_simp; try with_reducible rfl
          simp only [Act.put, List.setIfInBounds_toArray, List.set_cons_zero, List.set_cons_succ]
          refine regS_take (i := 1) (v := ?_) rfl (by kernel_rfl) (by kernel_rfl) (by kernel_rfl) (fun _ _ _ h => h) (by rfl) ?_ ?_
          rotate_left
          · intro W hW; go_simp; try with_reducible rfl
          simp only [Act.put, List.setIfInBounds_toArray, List.set_cons_zero, List.set_cons_succ]
          refine regS_take (i := 2) (v := ?_) rfl (by kernel_rfl) (by kernel_rfl) (by kernel_rfl) (fun _ _ _ h => h) (by rfl) ?_ ?_
          rotate_left
          · intro W hW; go_simp; try with_reducible rfl
          simp only [Act.put, List.setIfInBounds_toArray, List.set_cons_zero, List.set_cons_succ]
          refine regS_take (i := 3) (v := ?_) rfl (by kernel_rfl) (by kernel_rfl) (by kernel_rfl) (fun _ _ _ h => h) (by rfl) ?_ ?_
          rotate_left
          · intro W hW; go_simp; try with_reducible rfl
          simp only [Act.put, List.setIfInBounds_toArray, List.set_cons_zero, List.set_cons_succ]
          refine regS_take (i := 4) (v := ?_) rfl (by kernel_rfl) (by kernel_rfl) (by kernel_rfl) (fun _ _ _ h => h) (by rfl) ?_ ?_
          rotate_left
          · intro W hW; go_simp; try with_reducible rfl
          simp only [Act.put, List.setIfInBounds_toArray, List.set_cons_zero, List.set_cons_succ]
          refine regS_do (i := 5) rfl (by kernel_rfl) (fun K hK => ?_)
          rw [if_pos (by rfl)]
          go_simp
          refine (tz_ok x k h0 hx hk hb1 _ (ht.ext hE3.drew)).mono ?_
          rintro e w4 ⟨rfl, rfl⟩
          refine hK.out _ _ ⟨hE3.drew, hbx3.drew⟩ ?_
          clear hK K
          try simp only [Act.put, List.setIfInBounds_toArray, List.set_cons_zero, List.set_cons_succ]
          refine regS_take (i := 6) (v := ?_) rfl (by kernel_rfl) (by kernel_rfl) (by kernel_rfl) (fun _ _ _ h => h) (by rfl) ?_ ?_
          rotate_left
          · intro W hW; go_simp; try with_reducible rfl
          simp only [Act.put, List.setIfInBounds_toArray, List.set_cons_zero, List.set_cons_succ]
          refine regS_take (i := 7) (v := ?_) rfl (by kernel_rfl) (by kernel_rfl) (by kernel_rfl) (fun _ _ _ h => h) (by rfl) ?_ ?_
          rotate_left
          · intro W hW; go_simp; try with_reducible rfl
          simp only [Act.put, List.setIfInBounds_toArray, List.set_cons_zero, List.set_cons_succ]
          refine regS_do (i := 8) rfl (by kernel_rfl) (fun K hK => ?_)
          rw [if_pos (by rfl)]
          go_simp
          refine hK.out _ _ ⟨(hE3.alloc _).drew, (hbx3.alloc _).drew⟩ ?_
          clear hK K
          try simp only [Act.put, List.setIfInBounds_toArray, List.set_cons_zero, List.set_cons_succ]
          refine regS_do (i := 9) rfl (by kernel_rfl) (fun K hK => ?_)
          rw [if_pos (by rfl)]
          refine wp_appE T w _ _ rfl ((hE3.alloc _).drew) A3 _ c3 _ rfl ((hown3.alloc _).drew) _ 1 1 [told pid k] rfl ((Els.lit_at rfl [told pid k] 39 1 (by rw [e16_cells_one, told_val]) rfl (by omega)).drew) (by omega) ?_
          intro A4 c4 w4 hown4 hE4 hk4
          obtain ⟨hbx4, hap4⟩ := hk4.blk ((hbx3.alloc _).drew) hap3
          refine hK.out _ _ ⟨hE4, hbx4⟩ ?_
          clear hK K
          try simp only [Act.put, List.setIfInBounds_toArray, List.set_cons_zero, List.set_cons_succ]
          refine regS_take (i := 10) (v := ?_) rfl (by kernel_rfl) (by kernel_rfl) (by kernel_rfl) (fun _ _ _ h => h) (by rfl) ?_ ?_
          rotate_left
          · intro W hW; go_simp; try with_reducible rfl
          simp only [Act.put, List.setIfInBounds_toArray, List.set_cons_zero, List.set_cons_succ]
          refine regS_done (by kernel_rfl) ?_
          have hsub : IntKind.u16.wrap ((x : Int) - 1) = ((x - 1 : Nat) : Int) := by rw [IntKind.wrap_u16]; omega
          have hand : bits .and .u16 (x : Int) ((x - 1 : Nat) : Int) = ((x - 2 ^ k : Nat) : Int) := by rw [u16_and_nat _ _ hx (by omega), hb3]
          obtain ⟨y, hy⟩ : ∃ y, x - 2 ^ k = y := ⟨_, rfl⟩
          have hyx : y < x := by have := Nat.two_pow_pos k; omega
          rw [hy] at hand hb4
          have e1 : (ks ++ [k]).length = ks.length + 1 := by simp
          rw [List.append_assoc, show List.map (told pid) ks ++ [told pid k] = List.map (told pid) (ks ++ [k]) by simp] at hown4
          clear hy hb1 hb2 hb3 hown3 hE3 hbx3 hap3 hk4 f0
          go_wp2_with fail
          go_roundw
          case rel => exact ⟨y, ks ++ [k], A4, c4, by omega, rfl, by rw [hbits, hb4]; simp, by rw [e1]; rfl, by rw [e1]; exact hown4, hE4, hbx4, by rw [e1]; exact hap4⟩
          case measure => simp [intOf]; omega
        · obtain rfl : x = 0 := by omega
          rw [bits16_zero, List.append_nil] at hbits
          have htl : tells (l.take (j + 1)) = L ++ [pid] ++ ks.map (told pid) := by
            rw [hts, ← hbits]
            simp [tell]
          have hll : (tells (l.take (j + 1))).length = L.length + 1 + ks.length := by
            rw [htl]; simp; omega
          go_wp2_with fail
          go_roundw
          case rel => exact ⟨j + 1, A3, c3, by omega, by go_num, by rw [hll], by rw [hll, htl]; exact hown3, hE3⟩
          case measure => simp [intOf]; omega
    · obtain rfl : j = n := by omega
      rw [← hlen, List.take_length] at hown ⊢
      go_wp2_with fail
      go_ret
      exact ⟨A', c', rfl, hown, hE⟩
end Go.Proofs.YtiamcdbnhmlhaaaDoor

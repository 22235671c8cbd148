/- slices.Chunk over bytes, the length a multiple of the chunk's: its contract. -/
import Derived.Test.YthepndimhiieiaaBackward
import Derived.Sort.QuietIn
namespace Go.Proofs.Ythepndimhiieiaa
open Go.RowKit Go.Shelf

attribute [local go_sem] Oper.semAt_some

/-- What a round keeps: the two boxes of the iterator. -/
def KpBox (Bs Bn : Nat) (W W' : World) : Prop :=
  (∀ v, W.cell? ⟨Bs, 0, none⟩ = some v → W'.cell? ⟨Bs, 0, none⟩ = some v) ∧ (∀ v, W.cell? ⟨Bn, 0, none⟩ = some v → W'.cell? ⟨Bn, 0, none⟩ = some v)
theorem KpBox.trans {Bs Bn : Nat} {A B C : World} (h : KpBox Bs Bn A B) (h' : KpBox Bs Bn B C) : KpBox Bs Bn A C :=
  ⟨fun v hv => h'.1 v (h.1 v hv), fun v hv => h'.2 v (h.2 v hv)⟩
theorem KpBox.book {Bs Bn : Nat} (W : World) (l : Nat) (o o' : Obj) (hl : W.heap[l]? = some o) (ho : o.isCells = false) : KpBox Bs Bn W (W.putObj l o') :=
  ⟨fun _ hv => cell_kept hv (grownBy_putObj' W l o') (fun r e => by cases e; exact ⟨o, hl, ho⟩), fun _ hv => cell_kept hv (grownBy_putObj' W l o') (fun r e => by cases e; exact ⟨o, hl, ho⟩)⟩
/-- What a round is handed: which chunk. -/
abbrev Chk (m : Nat) : Type := { x : Nat // x < m }
theorem grownBy_drewN (W : World) (q : Nat) : W.grownBy (W.drewN q) none := ⟨rfl, rfl, rfl, Nat.le_refl _, fun _ _ _ => rfl⟩

set_option maxRecDepth 100000 in
set_option maxHeartbeats 2000000 in
theorem chunk1_in (n : Nat) (hn : 1 ≤ n) (l Bs Bn m cap g o : Nat) (hcap : 4 * m ≤ cap) (hreach : cap ≤ 9223372036854775807) (hm : m ≤ 1099511627776) (J Jx : List (Chk m) → World → Prop)
    (hJ : ∀ s A B, J s A → A.grownBy B none → J s B)
    (hY : ∀ pre x W, J pre W → pre.length < m → YieldAt Fence.wide (n - 1) Try.prog l #[.slice (some ⟨g, o + 4 * x.1, none⟩) 4 4] W fun e W' =>
      (e = .returned (.bool true) ∧ J (pre ++ [x]) W' ∧ KpBox Bs Bn W W') ∨ (e = .returned (.bool false) ∧ Jx (pre ++ [x]) W'))
    (W : World) (hBs : W.cell? ⟨Bs, 0, none⟩ = some (.slice (some ⟨g, o, none⟩) (4 * m) cap)) (hBn : W.cell? ⟨Bn, 0, none⟩ = some (.int .i64 4)) (h0 : J [] W) :
    CallsIn Fence.wide n Try.prog 102 #[.func (.yield l) #[] #[], .pointer (some ⟨Bs, 0, none⟩), .pointer (some ⟨Bn, 0, none⟩)] W fun e W' => (∃ v, e = .returned v) ∧
      ((∃ ys, ys.map Subtype.val = List.range m ∧ J ys W') ∨ (∃ pre, Jx pre W')) := by
  refine callsIn_of_wp Try.func102 rfl trivial ?_ rfl
  simp only [Try.ntmps102, List.size_toArray, List.length_cons, List.length_nil, Nat.reduceAdd, Nat.reduceSub, Array.replicate_succ, Array.replicate_zero, List.push_toArray, List.append_toArray, List.nil_append, List.cons_append]
  gi_wp2
  gi_loopw [4] (fun i wr => ∃ (k : Nat) (pre : List (Chk m)), k ≤ m ∧ i = .int .i64 ((4 * k : Nat) : Int) ∧ pre.map Subtype.val = List.range k ∧ J pre wr ∧ KpBox Bs Bn W wr)
    (fun i _ => 4 * m - (intOf i).toNat)
  case atStart => exact ⟨0, [], Nat.zero_le _, rfl, rfl, h0, fun _ h => h, fun _ h => h⟩
  case round =>
    obtain ⟨k, pre, hk, rfl, hpre, hJs, hkp⟩ := hrel
    have hBs' := hkp.1 _ hBs
    have hBn' := hkp.2 _ hBn
    by_cases h1 : k < m
    · have hpl : pre.length = k := by
        have := congrArg List.length hpre
        simpa using this
      have hyy := fun W hW => hY pre ⟨k, h1⟩ W hW (by omega)
      obtain ⟨i, hi⟩ : ∃ i, 4 * k = i := ⟨_, rfl⟩
      obtain ⟨N, hN⟩ : ∃ N, 4 * m = N := ⟨_, rfl⟩
      dsimp only at hyy
      rw [hi] at hyy ⊢
      rw [hN] at hBs' hcap
      have hlt : (i : Int) < (N : Int) := by omega
      have hle : i ≤ N := by omega
      have hcn : cap ≠ i := by omega
      have hc4 : N ≤ cap := by omega
      gi_wp2
      gi_quiet (fail)
      obtain ⟨fn, tmps, assign, body, hy, hR⟩ := hyy (wr.drewN nq) (hJ _ _ _ hJs (grownBy_drewN _ _))
      have hBs2 : (wr.drewN nq).cell? ⟨Bs, 0, none⟩ = _ := hBs'
      have hBn2 : (wr.drewN nq).cell? ⟨Bn, 0, none⟩ = _ := hBn'
      have hkp2 : KpBox Bs Bn W (wr.drewN nq) := hkp
      generalize wr.drewN nq = w3 at hy hR hBs2 hBn2 hkp2 ⊢
      have hw4 : IntKind.i64.wrap ((i : Int) + 4) = ((i + 4 : Nat) : Int) := by rw [IntWalk.i64_in _ (by omega)]; omega
      have hi4 : i + 4 ≤ cap := by omega
      have hi5 : (i : Int) + 4 ≤ (cap : Int) := by omega
      have hi6 : i + 4 - i = 4 := by omega
      have HI := hide hi
      have HN := hide hN
      have HP := hide hpre
      have HPl := hide hpl
      have HK := hide hkp2
      clear hi hN hpre hpl hkp hkp2 hyy hY hBs' hBn' hJs
      gi_wp2
      refine hR.mono ?_
      rintro e W3 (⟨rfl, hJ3, hk3⟩ | ⟨rfl, hJx3⟩)
      · have hBn3 := hk3.2 _ hBn2
        gi_wp2
        go_roundw
        case rel => exact ⟨k + 1, pre ++ [⟨k, h1⟩], by omega, by rw [show ((4 * (k + 1) : Nat) : Int) = (i : Int) + 4 by have := HI.out; omega], by rw [List.map_append, HP.out, List.range_succ]; rfl, hJ3, HK.out.trans hk3⟩
        case measure => simp [intOf]; have := HN.out; omega
      · gi_wp2
        refine bodyPost_ret (results_none rfl _ _ _) rfl ?_
        exact ⟨⟨_, rfl⟩, .inr ⟨_, hJx3⟩⟩
    · obtain rfl : k = m := by omega
      have HP := hide hpre
      clear hpre
      gi_wp2
      go_end0
      exact ⟨⟨_, rfl⟩, .inl ⟨pre, HP.out, hJs⟩⟩

set_option maxHeartbeats 1000000 in
theorem chunk_in (n : Nat) (a : Option Addr) (len cap : Nat) (w : World) :
    CallsIn Fence.wide n Try.prog 88 #[.slice a len cap, .int .i64 4] w fun e w' => e = .returned (.func (.func 102) #[] #[.pointer (some ⟨w.heap.size, 0, none⟩), .pointer (some ⟨w.heap.size + 1, 0, none⟩)]) ∧ (w.alloc (.cells #[.slice a len cap] 25)).alloc (.cells #[.int .i64 4] 3) = w' := by
  refine callsIn_of_wp Try.func88 rfl trivial ?_ rfl
  simp only [Try.ntmps88, List.size_toArray, List.length_cons, List.length_nil, Nat.reduceAdd, Nat.reduceSub, Array.replicate_succ, Array.replicate_zero, List.push_toArray, List.append_toArray, List.nil_append, List.cons_append]
  gi_wp2
  go_ret
  exact ⟨rfl, rfl⟩

theorem chunk_stops (n : Nat) (hn : 1 ≤ n) (Bs Bn m cap g o : Nat) (hcap : 4 * m ≤ cap) (hreach : cap ≤ 9223372036854775807) (hm : m ≤ 1099511627776) (w : World) (hBs : Bs < w.heap.size) (hBn : Bn < w.heap.size)
    (hc : w.cell? ⟨Bs, 0, none⟩ = some (.slice (some ⟨g, o, none⟩) (4 * m) cap)) (hd : w.cell? ⟨Bn, 0, none⟩ = some (.int .i64 4)) :
    SeqStopsK Fence.wide n Try.prog 102 #[.pointer (some ⟨Bs, 0, none⟩), .pointer (some ⟨Bn, 0, none⟩)] (fun x : Chk m => #[Value.slice (some ⟨g, o + 4 * x.1, none⟩) 4 4]) (KpBox Bs Bn) (fun ys => ys.map Subtype.val = List.range m) (fun _ => True) m w := fun l J Jx W hW hJ _ hY h0 => by
  have hc' := (hW.cell (p := ⟨Bs, 0, none⟩) hBs).trans hc
  have hd' := (hW.cell (p := ⟨Bn, 0, none⟩) hBn).trans hd
  refine (chunk1_in n hn l Bs Bn m cap g o hcap hreach hm J Jx (fun s A B h hg => hJ s A B none h hg (fun r e => by cases e)) hY W hc' hd' h0).mono ?_
  rintro e W' ⟨he, ⟨ys, hys, hj⟩ | ⟨pre, hj⟩⟩
  · exact ⟨he, .inl ⟨_, hys, hj⟩⟩
  · exact ⟨he, .inr ⟨_, trivial, hj⟩⟩
end Go.Proofs.Ythepndimhiieiaa

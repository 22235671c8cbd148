/- Layer 15 for the walk of a law: results by name, a fresh world, what it reads. -/
import Derived.Test.YtiamcdbnhmlhaaaDoorNackSeqsR
import Derived.Test.YtiamcdbnhmlhaaaDoorNackPairsR
import Derived.Test.YtiamcdbnhmlhaaaDoorNackSame
import Derived.Test.YtiamcdbnhmlhaaaDoorNackWriteR
import Derived.Test.YtiamcdbnhmlhaaaDoorNackRead
namespace Go.Proofs.YtiamcdbnhmlhaaaDoor
open Go.RowKit
theorem seqs_B (A : Option Addr) (n c : Nat) (l : List Pr) (w : World) (h : Els ePr w A n c l) (hn : n ≤ 16777216) (ht : Tab w) (t : List UInt16) (e : tells l = t) : Calls Tryd.prog 9 #[.slice A n c] w fun e w' =>
    ∃ A' c', e = .returned (.slice A' t.length c') ∧ Els e16 w' A' t.length c' t ∧ Ext w w' := by
  subst e
  exact (seqs_any A n c l w h hn ht).mono fun e w' ⟨A', c', he, ho, hE⟩ => ⟨A', c', he, Els.own (E := e16) ho, hE⟩
theorem rseqs_B (A : Option Addr) (n c : Nat) (l : List Pr) (w : World) (h : Els ePr w A n c l) (hn : n ≤ 16777216) (t : List UInt16) (e : tells l = t) : Calls Tryd.prog 10 #[.slice A n c] w fun e w' =>
    ∃ A' c', e = .returned (.slice A' t.length c') ∧ Els e16 w' A' t.length c' t ∧ Ext w w' := by
  subst e
  exact (rseqs_any A n c l w h hn).mono fun e w' ⟨A', c', he, ho, hE⟩ => ⟨A', c', he, Els.own (E := e16) ho, hE⟩
theorem pairs_B (A : Option Addr) (n c : Nat) (s : List UInt16) (w : World) (h : Els e16 w A n c s) (hn : n ≤ 16777216) (t : List Pr) (e : pairs s = t) : Calls Tryd.prog 12 #[.slice A n c] w fun e w' =>
    ∃ A' c', e = .returned (.slice A' t.length c') ∧ Els ePr w' A' t.length c' t ∧ Ext w w' := by
  subst e
  exact (pairs_any A n c s w h hn).mono fun e w' ⟨A', c', he, ho, hE⟩ => ⟨A', c', he, Els.own (E := ePr) ho, hE⟩
theorem rpairs_B (A : Option Addr) (n c : Nat) (s : List UInt16) (w : World) (h : Els e16 w A n c s) (hn : n ≤ 16777216) (t : List Pr) (e : pairs s = t) : Calls Tryd.prog 13 #[.slice A n c] w fun e w' =>
    ∃ A' c', e = .returned (.slice A' t.length c') ∧ Els ePr w' A' t.length c' t ∧ Ext w w' := by
  subst e
  exact (rpairs_any A n c s w h hn).mono fun e w' ⟨A', c', he, ho, hE⟩ => ⟨A', c', he, Els.own (E := ePr) ho, hE⟩
theorem write_B (A : Option Addr) (n c : Nat) (l : List Pr) (w : World) (h : Els ePr w A n c l) (h1 : 1 ≤ n) (h2 : n ≤ 16380) (x : List UInt8) (e : bod l = x) : Calls Tryd.prog 14 #[.slice A n c] w fun e w' =>
    ∃ A' c', e = .returned (.tuple #[.slice A' (4 * n) c', .int .i64 0]) ∧ w'.ownsRow w.heap.size 5 1 (.slice A' (4 * n) c') (4 * n) (x.map Bv) ∧ Bytes w' A' (4 * n) c' x ∧ Ext w w' := by
  subst e
  exact (write_yes A n c l w h h1 h2).mono fun e w' ⟨A', c', he, ho, hE⟩ => ⟨A', c', he, ho, Bytes.own ho, hE⟩
theorem rwrite_B (A : Option Addr) (n c : Nat) (l : List Pr) (w : World) (h : Els ePr w A n c l) (h2 : n ≤ 16777216) (x : List UInt8) (e : bod l = x) : Calls Tryd.prog 15 #[.slice A n c] w fun e w' =>
    ∃ A' c', e = .returned (.slice A' (4 * n) c') ∧ Bytes w' A' (4 * n) c' x ∧ Ext w w' := by
  subst e
  exact (rwrite_any A n c l w h h2).mono fun e w' ⟨A', c', he, ho, hE⟩ => ⟨A', c', he, Bytes.own ho, hE⟩
theorem read_B (A : Option Addr) (n c : Nat) (b : List UInt8) (w : World) (h : Bytes w A n c b) (t : List Pr) (e : rL b = t) (E : Int) (hE : rE b = E) : Calls Tryd.prog 16 #[.slice A n c] w fun e w' =>
    ∃ A' c', e = .returned (.tuple #[.slice A' t.length c', .int .i64 E]) ∧ Els ePr w' A' t.length c' t ∧ Ext w w' := by
  subst e hE
  exact (read_any A n c b w h).mono fun e w' ⟨A', c', he, ho, hE⟩ => ⟨A', c', he, Els.own (E := ePr) ho, hE⟩
theorem rread_B (A : Option Addr) (n c : Nat) (b : List UInt8) (w : World) (h : Bytes w A n c b) (t : List Pr) (e : rL b = t) (E : Int) (hE : rE b = E) : Calls Tryd.prog 17 #[.slice A n c] w fun e w' =>
    ∃ A' c', e = .returned (.tuple #[.slice A' t.length c', .int .i64 E]) ∧ Els ePr w' A' t.length c' t ∧ Ext w w' := by
  subst e hE
  exact (rread_any A n c b w h).mono fun e w' ⟨A', c', he, ho, hE⟩ => ⟨A', c', he, Els.own (E := ePr) ho, hE⟩
end Go.Proofs.YtiamcdbnhmlhaaaDoor

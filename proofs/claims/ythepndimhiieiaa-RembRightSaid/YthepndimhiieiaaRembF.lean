/- remb.Canon, Write, whatever the input is. -/
import Derived.Test.YthepndimhiieiaaPlainRemb2
namespace Go.Proofs.Ythepndimhiieiaa
open Go.RowKit
set_option maxRecDepth 100000 in
set_option maxHeartbeats 1000000 in
theorem canon17_any (A : Option Addr) (n c : Nat) (b : List UInt8) (w : World) (hb : Bytes w A n c b) (r : Bool) (hr : rbC b = r) : Calls Try.prog 51 #[.slice A n c] w fun e w' => e = .returned (.bool r) ∧ Ext w w' := by
  have hlen := hb.len
  by_cases h : rbE b = 0
  · obtain ⟨h1, h2, h3⟩ := rbE_ok h
    obtain ⟨g, o, rfl, hg⟩ := hb.form (by omega)
    refine canon17_ok _ g o n c b w hb (by omega) (by omega) h3 rfl _ _ (rbX b) (rbM b) rfl rfl (by unfold rbX; rw [if_pos h]) (by unfold rbM; rw [if_pos h]) r ?_
    rw [← hr]
    unfold rbC
    by_cases q : getV b 5 3 / 262144 = rbX b ∧ getV b 5 3 % 262144 = rbM b
    · rw [decide_eq_true q, decide_eq_true ⟨h, q⟩]
    · rw [decide_eq_false q, decide_eq_false fun z => q z.2]
  · obtain rfl : false = r := by rw [← hr]; symm; exact decide_eq_false fun z => h z.1
    have S := hide (fun W hb => read17_any A n c b W hb)
    obtain ⟨E, hE⟩ : ∃ E, rbE b = E := ⟨_, rfl⟩
    rw [hE] at S h
    have hne : (E != 0) = true := by rw [bne_iff_ne]; exact h
    clear hr hE h
    go_enter Try.func51, Try.ntmps51
    go_wp2_with fail
    refine (S.out _ hb).mono ?_
    rintro e w1 ⟨A', c', rfl, _, hE⟩
    go_wp2_with fail
    go_ret
    exact ⟨rfl, hE.alloc _⟩
/-- remb.Write, right or not. -/
theorem write17_gen (x : Int) (m : Nat) (l : List UInt32) (A : Option Addr) (c : Nat) (n : Nat) (w : World) (hc : Els e32 w A n c l) (r : Bool) (hr : rbRight x m n = r) : Calls Try.prog 45 #[.agg #[.int .i64 x, .int .u32 (m : Int), .slice A n c]] w fun e w' => ∃ A' N c' y E, e = .returned (.tuple #[.slice A' N c', .int .i64 E]) ∧ Bytes w' A' N c' y ∧ (r = true → N = 8 + 4 * n ∧ E = 0 ∧ y = rbBytes x.toNat m l) ∧ (r = false → N = 0 ∧ E = 1) ∧ Ext w w' := by
  cases r
  · exact (write17_no x m A n c w hr).mono fun e w' ⟨he, hE⟩ => ⟨none, 0, 0, [], 1, he, Bytes.nil w', (fun e => by cases e), fun _ => ⟨rfl, rfl⟩, hE⟩
  · have h := of_decide_eq_true hr
    obtain ⟨k, rfl⟩ := Int.eq_ofNat_of_zero_le h.1
    exact (write17_B k m l A c n w hc hr _ rfl).mono fun e w' ⟨A', c', he, hB, hE⟩ => ⟨A', 8 + 4 * n, c', _, 0, he, hB, fun _ => ⟨rfl, rfl, rfl⟩, (fun e => by cases e), hE⟩
end Go.Proofs.Ythepndimhiieiaa

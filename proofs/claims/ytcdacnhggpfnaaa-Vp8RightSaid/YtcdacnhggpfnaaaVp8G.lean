/- vp8.Set: the walk. -/
import Derived.Test.YtcdacnhggpfnaaaVp8F
import Derived.Test.YtcdacnhggpfnaaaClone
import Derived.Deep.DeepCutAuto
namespace Go.Proofs.Ytcdacnhggpfnaaa
open Go.RowKit
theorem vr_places {b : List UInt8} (h : vrE b = 0) : ((vrD b).hasPic = true → (vrS b).p = ((2 : Nat) : Int) ∧ (if (vrD b).wide = true then 4 else 3) ≤ b.length) ∧ ((vrD b).hasLevel = true → ∃ L : Nat, (vrS b).l = (L : Int) ∧ L < b.length) ∧ ((vrD b).hasKey = true → ∃ K : Nat, (vrS b).k = (K : Int) ∧ K < b.length) := by
  obtain ⟨f, g, p, l, k, z, H, hb, hc⟩ := vr_un h
  obtain ⟨e1, e2, e3⟩ := vr_enc H hb h
  obtain ⟨d1, d2, d3, d4, d5⟩ := dec_has (f := f) (g := g) (p := p) (l := l) (k := k)
  obtain ⟨q1, q2, q3⟩ := H
  have hl := congrArg List.length hb
  rw [e1, e3, d1, d2, d3, d5]
  dsimp only
  refine ⟨fun hp => ?_, fun hp => ?_, fun hp => ?_⟩
  all_goals rw [if_pos hp]
  · have hf := hi_of f g (.inl hp)
    refine ⟨rfl, ?_⟩
    rw [hl]
    unfold enc
    rw [if_pos hf]
    rcases q1 with ⟨h1, _⟩ | ⟨_, ⟨x, rfl, hx⟩ | ⟨x, y, rfl, hx⟩⟩
    · rw [h1] at hp; cases hp
    · simp
    · simp
  · have hf := hi_of f g (.inr (.inl hp))
    refine ⟨_, rfl, ?_⟩
    rw [hl]
    unfold enc
    rw [if_pos hf]
    rcases q2 with ⟨h1, _⟩ | ⟨_, x, rfl⟩
    · rw [h1] at hp; cases hp
    · simp; omega
  · have hf := hi_of f g (.inr (.inr (.inr hp)))
    refine ⟨_, rfl, ?_⟩
    rw [hl]
    unfold enc
    rw [if_pos hf]
    rcases q3 with ⟨h1, _⟩ | ⟨_, x, rfl⟩
    · rw [hp] at h1; simp at h1
    · simp; omega
theorem or_keyS (x : UInt8) (k : Nat) (h : k < 32) : bits .or .u8 (bits .andNot .u8 (x.toNat : Int) 31) (k : Int) = ((UInt8.ofNat (x.toNat / 32 * 32 + k)).toNat : Int) := by
  have h1 : ∀ (x : Fin 256) (k : Fin 32), bits .or .u8 (bits .andNot .u8 (x.1 : Int) 31) (k.1 : Int) = ((x.1 / 32 * 32 + k.1 : Nat) : Int) := by decide +kernel
  have hx := x.toNat_lt
  have h2 := h1 ⟨x.toNat, by omega⟩ ⟨k, h⟩
  dsimp only at h2
  rw [h2, UInt8.toNat_ofNat']
  omega
set_option maxRecDepth 100000 in
set_option maxHeartbeats 1000000 in
theorem v8set_no (A : Option Addr) (n c : Nat) (b : List UInt8) (pic lev key : Int) (w : World) (hb : Bytes w A n c b) (hn : n ≤ 1000000) (E : Int) (hE : vrE b = E) (h0 : E ≠ 0) :
    Calls Try.prog 23 #[.slice A n c, .int .i64 pic, .int .i64 lev, .int .i64 key] w fun e w' => e = .returned (.tuple #[.slice none 0 0, .int .i64 E]) ∧ Ext w w' := by
  obtain ⟨s5, hs5⟩ : ∃ x, vrS b = x := ⟨_, rfl⟩
  obtain ⟨d5, hd5⟩ : ∃ x, vrD0 b = x := ⟨_, rfl⟩
  unfold vrE at hE
  rw [hs5, hd5] at hE
  have S := hide (fun W g hE h0 hg => rdread_any g A n c b rs0 w W hb hE h0 hg hn (by decide) s5 d5 (Prod.ext hs5 hd5))
  rw [hE] at S
  have hne : (E != 0) = true := by rw [bne_iff_ne]; exact h0
  clear hs5 hd5 hE h0
  go_enter Try.func23, Try.ntmps23
  go_wp2_with fail
  have hg0 := Blk.new w 105 #[.slice A n c, .int .i64 0, .bool false, .int .i64 0, .int .i64 0, .int .i64 0]
  refine (S.out _ w.heap.size ((Ext.refl w).alloc _) (Nat.le_refl _) hg0).mono ?_
  rintro e w1 ⟨rfl, hg1, hC⟩
  have hE := hC.ext w (fun x e => by omega) ((Ext.refl w).alloc (.cells #[.slice A n c, .int .i64 0, .bool false, .int .i64 0, .int .i64 0, .int .i64 0] 105))
  go_wp2_with fail
  go_ret2
  exact ⟨rfl, hE.alloc _⟩
end Go.Proofs.Ytcdacnhggpfnaaa

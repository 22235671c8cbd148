/- Plain law of layer 15: the body. No program in sight. -/
import Derived.Test.YtiamcdbnhmlhaaaDoorPlainNack
namespace Go.Proofs.YtiamcdbnhmlhaaaDoor
def wr1 (p : Pr) : List UInt8 := [UInt8.ofNat (p.1.toNat / 256), UInt8.ofNat p.1.toNat, UInt8.ofNat (p.2.toNat / 256), UInt8.ofNat p.2.toNat]
def bod (l : List Pr) : List UInt8 := l.flatMap wr1
def rd : List UInt8 → List Pr
  | a :: b :: c :: d :: r => (UInt16.ofNat (256 * a.toNat + b.toNat), UInt16.ofNat (256 * c.toNat + d.toNat)) :: rd r
  | _ => []
def rE (b : List UInt8) : Int := if 65520 < b.length ∨ b.length % 4 ≠ 0 then 4 else if b.length = 0 then 2 else 0
def rL (b : List UInt8) : List Pr := if rE b = 0 then rd b else []
theorem wr_append (l m : List Pr) : bod (l ++ m) = bod l ++ bod m := by simp [bod]
theorem wr_len (l : List Pr) : (bod l).length = 4 * l.length := by
  induction l with
  | nil => rfl
  | cons p l ih =>
    have : (bod (p :: l)).length = 4 + (bod l).length := by simp [bod, wr1]; omega
    rw [this, ih, List.length_cons]; omega
theorem be4 (a b : Nat) (h2 : b < 65536) : be 4 (a * 65536 + b) = [UInt8.ofNat (a / 256), UInt8.ofNat a, UInt8.ofNat (b / 256), UInt8.ofNat b] := by
  simp only [be, List.nil_append, List.cons_append, List.cons.injEq, and_true]
  refine ⟨?_, ?_, ?_, ?_⟩ <;> apply UInt8.toNat_inj.1 <;> simp only [UInt8.toNat_ofNat'] <;> omega
theorem wr1_be (p : Pr) : be 4 (p.1.toNat * 65536 + p.2.toNat) = wr1 p := be4 _ _ p.2.toNat_lt
theorem rd_wr1 (p : Pr) (r : List UInt8) : rd (wr1 p ++ r) = p :: rd r := by
  have h1 := p.1.toNat_lt
  have h2 := p.2.toNat_lt
  unfold wr1
  simp only [List.cons_append, List.nil_append, rd, List.cons.injEq, and_true]
  refine Prod.ext ?_ ?_ <;> apply UInt16.toNat_inj.1 <;> simp only [UInt16.toNat_ofNat', UInt8.toNat_ofNat'] <;> omega
theorem rd_wr (l : List Pr) : rd (bod l) = l := by
  induction l with
  | nil => rfl
  | cons p l ih =>
    have : bod (p :: l) = wr1 p ++ bod l := by simp [bod]
    rw [this, rd_wr1, ih]
theorem wr_rd (b : List UInt8) (h : b.length % 4 = 0) : bod (rd b) = b := by
  match b, h with
  | [], _ => rfl
  | a :: b :: c :: d :: r, h =>
    have ih := wr_rd r (by simp at h; omega)
    have ha := a.toNat_lt
    have hb := b.toNat_lt
    have hc := c.toNat_lt
    have hd := d.toNat_lt
    have : bod (rd (a :: b :: c :: d :: r)) = wr1 (UInt16.ofNat (256 * a.toNat + b.toNat), UInt16.ofNat (256 * c.toNat + d.toNat)) ++ bod (rd r) := by simp [bod, rd]
    rw [this, ih]
    unfold wr1
    simp only [List.cons_append, List.nil_append, List.cons.injEq, and_true]
    refine ⟨?_, ?_, ?_, ?_⟩ <;> apply UInt8.toNat_inj.1 <;> simp only [UInt16.toNat_ofNat', UInt8.toNat_ofNat'] <;> omega
  | [_], h => simp at h
  | [_, _], h => simp at h
  | [_, _, _], h => simp at h
theorem rd_len (b : List UInt8) (h : b.length % 4 = 0) : 4 * (rd b).length = b.length := by
  have := wr_len (rd b)
  rw [wr_rd b h] at this
  omega
theorem rd_append (a b : List UInt8) (h : a.length % 4 = 0) : rd (a ++ b) = rd a ++ rd b := by
  match a, h with
  | [], _ => rfl
  | x :: y :: z :: u :: r, h =>
    have ih := rd_append r b (by simp at h; omega)
    simp [rd, ih]
  | [_], h => simp at h
  | [_, _], h => simp at h
  | [_, _, _], h => simp at h
end Go.Proofs.YtiamcdbnhmlhaaaDoor

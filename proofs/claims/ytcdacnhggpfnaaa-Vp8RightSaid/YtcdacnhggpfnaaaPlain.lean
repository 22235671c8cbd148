/- Plain law of octets: numbers in bytes, the highest byte first. No program in sight. -/
import Derived.Laws.BitsAllLaws
import Derived.IntWalk
import Derived.RowKit
namespace Go.Proofs.Ytcdacnhggpfnaaa

/-- The number in bytes, the highest first. -/
def val (l : List UInt8) : Nat := l.foldl (fun a x => 256 * a + x.toNat) 0
theorem val_nil : val [] = 0 := rfl
theorem foldl_val (l : List UInt8) (a : Nat) : l.foldl (fun a x => 256 * a + x.toNat) a = a * 256 ^ l.length + val l := by
  induction l generalizing a with
  | nil => simp [val]
  | cons x l ih =>
    simp only [List.foldl_cons, List.length_cons, val]
    rw [ih, ih (256 * 0 + x.toNat), Nat.pow_succ, Nat.add_mul, Nat.add_mul, Nat.mul_comm 256 a, Nat.mul_assoc, Nat.mul_comm 256 (256 ^ l.length)]
    omega
theorem val_snoc (l : List UInt8) (x : UInt8) : val (l ++ [x]) = 256 * val l + x.toNat := by simp [val, List.foldl_append]
theorem val_cons (l : List UInt8) (x : UInt8) : val (x :: l) = x.toNat * 256 ^ l.length + val l := by
  have := foldl_val l x.toNat
  simpa [val] using this
theorem val_append (l m : List UInt8) : val (l ++ m) = val l * 256 ^ m.length + val m := by
  unfold val
  rw [List.foldl_append, foldl_val]
  rfl
theorem val_lt (l : List UInt8) : val l < 256 ^ l.length := by
  induction l with
  | nil => simp [val]
  | cons x l ih =>
    rw [val_cons, List.length_cons, Nat.pow_succ]
    have hx := x.toNat_lt
    have h1 : x.toNat * 256 ^ l.length ≤ 255 * 256 ^ l.length := Nat.mul_le_mul_right _ (by omega)
    omega
theorem val_take_succ (l : List UInt8) (k : Nat) (h : k < l.length) : val (l.take (k + 1)) = 256 * val (l.take k) + (l[k]).toNat := by
  rw [List.take_succ_eq_append_getElem h, val_snoc]
theorem val_take_lt {l : List UInt8} {k : Nat} (h : k ≤ 7) : val (l.take k) < 72057594037927936 := by
  have h1 := val_lt (l.take k)
  have h2 : (l.take k).length ≤ 7 := by rw [List.length_take]; omega
  have h3 : 256 ^ (l.take k).length ≤ 256 ^ 7 := Nat.pow_le_pow_right (by omega) h2
  omega
/-- n bytes of a number, the highest first. -/
def be : Nat → Nat → List UInt8
  | 0, _ => []
  | n + 1, v => be n (v / 256) ++ [UInt8.ofNat v]
theorem be_length (n v : Nat) : (be n v).length = n := by
  induction n generalizing v with
  | zero => rfl
  | succ n ih => simp [be, ih]
theorem val_be (n v : Nat) : val (be n v) = v % 256 ^ n := by
  induction n generalizing v with
  | zero => simp [be, val, Nat.mod_one]
  | succ n ih =>
    rw [be, val_snoc, ih, Nat.pow_succ, Nat.mul_comm (256 ^ n) 256, Nat.mod_mul, UInt8.toNat_ofNat']
    omega
theorem snoc_ind {α : Type} {P : List α → Prop} (h0 : P []) (h1 : ∀ l x, P l → P (l ++ [x])) (l : List α) : P l := by
  have h : ∀ m : List α, P m.reverse := by
    intro m
    induction m with
    | nil => exact h0
    | cons x m ih =>
      rw [List.reverse_cons]
      exact h1 _ _ ih
  have := h l.reverse
  rwa [List.reverse_reverse] at this
theorem be_val_mod (l : List UInt8) : ∀ k, be l.length (k * 256 ^ l.length + val l) = l := by
  induction l using snoc_ind with
  | h0 => intro k; rfl
  | h1 l x ih =>
    intro k
    rw [List.length_append, List.length_singleton, be, val_snoc, Nat.pow_succ, ← Nat.mul_assoc]
    have hx := x.toNat_lt
    have h1 : (k * 256 ^ l.length * 256 + (256 * val l + x.toNat)) / 256 = k * 256 ^ l.length + val l := by omega
    have h2 : UInt8.ofNat (k * 256 ^ l.length * 256 + (256 * val l + x.toNat)) = x := by
      apply UInt8.toNat_inj.1
      rw [UInt8.toNat_ofNat']
      omega
    rw [h1, ih, h2]
theorem be_val (l : List UInt8) : be l.length (val l) = l := by
  have := be_val_mod l 0
  simpa using this
theorem val_inj {l m : List UInt8} (h : l.length = m.length) (hv : val l = val m) : l = m := by
  rw [← be_val l, ← be_val m, h, hv]
theorem be_inj {n v u : Nat} (hv : v < 256 ^ n) (hu : u < 256 ^ n) (h : be n v = be n u) : v = u := by
  have h1 := val_be n v
  have h2 := val_be n u
  rw [Nat.mod_eq_of_lt hv] at h1
  rw [Nat.mod_eq_of_lt hu] at h2
  rw [← h1, ← h2, h]

/-- What a loop that stores the lowest byte at each index, and shifts, makes of some bytes. -/
def fill : List Nat → List UInt8 × Nat → List UInt8 × Nat
  | [], p => p
  | i :: is, p => fill is (p.1.set i (UInt8.ofNat p.2), p.2 / 256)
theorem fill_append (is js : List Nat) (p : List UInt8 × Nat) : fill (is ++ js) p = fill js (fill is p) := by
  induction is generalizing p with
  | nil => rfl
  | cons i is ih => exact ih _
theorem fill_snoc (is : List Nat) (i : Nat) (p : List UInt8 × Nat) : fill (is ++ [i]) p = ((fill is p).1.set i (UInt8.ofNat (fill is p).2), (fill is p).2 / 256) := by rw [fill_append]; rfl
theorem fill_length (is : List Nat) (p : List UInt8 × Nat) : (fill is p).1.length = p.1.length := by
  induction is generalizing p with
  | nil => rfl
  | cons i is ih => rw [fill, ih]; simp
theorem fill_down (n v : Nat) (tail : List UInt8) (z : UInt8) : fill (List.range n).reverse (List.replicate n z ++ tail, v) = (be n v ++ tail, v / 256 ^ n) := by
  induction n generalizing v tail with
  | zero => simp [fill, be]
  | succ n ih =>
    rw [List.range_succ, List.reverse_append, List.reverse_singleton, List.singleton_append, fill, List.replicate_succ']
    have h1 : (List.replicate n z ++ [z] ++ tail).set n (UInt8.ofNat v) = List.replicate n z ++ (UInt8.ofNat v :: tail) := by
      rw [List.append_assoc, List.set_append_right _ _ (by simp)]
      simp
    rw [h1, ih, be, Nat.pow_succ, Nat.mul_comm, Nat.div_div_eq_div_mul]
    simp
theorem fill_be (n v : Nat) : (fill (List.range n).reverse (List.replicate n 0, v)).1 = be n v := by
  have := fill_down n v [] 0
  rw [List.append_nil, List.append_nil] at this
  rw [this]
theorem fill_le (is : List Nat) (p : List UInt8 × Nat) : (fill is p).2 ≤ p.2 := by
  induction is generalizing p with
  | nil => exact Nat.le_refl _
  | cons i is ih => exact Nat.le_trans (ih _) (Nat.div_le_self _ _)

theorem shr_cast (v n : Nat) : (v : Int) / 2 ^ (8 * n) = ((v / 256 ^ n : Nat) : Int) := by
  have h : (2 : Int) ^ (8 * n) = ((256 ^ n : Nat) : Int) := by
    rw [show (256 : Nat) ^ n = 2 ^ (8 * n) by rw [Nat.pow_mul]]
    simp
  rw [h, Int.natCast_ediv]
theorem shr_pos (v n : Nat) (h : 256 ^ n ≤ v) : decide ((0 : Int) < (v : Int) / 2 ^ (8 * n)) = true := by
  have h1 : 0 < v / 256 ^ n := Nat.div_pos h (Nat.pow_pos (by omega))
  rw [shr_cast]
  simp only [decide_eq_true_eq]
  omega
theorem shr_none (v n : Nat) (h : v < 256 ^ n) : decide ((0 : Int) < (v : Int) / 2 ^ (8 * n)) = false := by
  have h1 : v / 256 ^ n = 0 := Nat.div_eq_of_lt h
  rw [shr_cast, h1]
  rfl

theorem low_byte (v : Nat) : (v : Int) % 256 = ((UInt8.ofNat v).toNat : Int) := by
  rw [UInt8.toNat_ofNat']
  omega

open Go in
theorem or_step (v x : Nat) (hv : v < 72057594037927936) (hx : x < 256) : bits .or .u64 (IntKind.u64.wrap ((v : Int) * 256)) (IntKind.u64.wrap (x : Int)) = ((256 * v + x : Nat) : Int) := by
  rw [IntWalk.u64_in _ (by omega), IntWalk.u64_in _ (by omega)]
  have h := u64_or_nat (v * 256) x (by omega) (by omega)
  have hj := nat_join 8 (v * 256) x (by omega) (by omega)
  rw [show ((v : Int) * 256) = ((v * 256 : Nat) : Int) by omega, h, hj]
  omega

/-- n bytes' number, read as a signed one. -/
def sval (n v : Nat) : Int := if v < 2 ^ (8 * n - 1) then (v : Int) else (v : Int) - 2 ^ (8 * n)
open Go Go.RowKit in
theorem signed_eq (n v : Nat) (h1 : 1 ≤ n) (h2 : n ≤ 8) (hv : v < 256 ^ n) : wrap64 (IntKind.u64.wrap ((v : Int) * 2 ^ (64 - 8 * n))) / 2 ^ (64 - 8 * n) = sval n v := by
  have h : n = 1 ∨ n = 2 ∨ n = 3 ∨ n = 4 ∨ n = 5 ∨ n = 6 ∨ n = 7 ∨ n = 8 := by omega
  rw [IntKind.wrap_u64]
  unfold wrap64 sval
  rcases h with rfl | rfl | rfl | rfl | rfl | rfl | rfl | rfl <;> simp at hv ⊢ <;> split <;> omega
/-- May n bytes hold a signed number? -/
def sfits (n : Nat) (v : Int) : Prop := -(2 ^ (8 * n - 1)) ≤ v ∧ v < 2 ^ (8 * n - 1)
/-- What n bytes hold for a signed number. -/
def suns (n : Nat) (v : Int) : Nat := (v % 2 ^ (8 * n)).toNat
open Go Go.RowKit in
theorem sfits_yes (n : Nat) (v : Int) (h1 : 1 ≤ n) (h2 : n ≤ 8) (hv : sfits n v) : (wrap64 (v * 2 ^ (64 - 8 * n)) / 2 ^ (64 - 8 * n) != v) = false := by
  have h : n = 1 ∨ n = 2 ∨ n = 3 ∨ n = 4 ∨ n = 5 ∨ n = 6 ∨ n = 7 ∨ n = 8 := by omega
  rw [bne_eq_false_iff_eq]
  unfold sfits at hv
  unfold wrap64
  rcases h with rfl | rfl | rfl | rfl | rfl | rfl | rfl | rfl <;> simp at hv ⊢ <;> omega
open Go Go.RowKit in
theorem sfits_no (n : Nat) (v : Int) (h1 : 1 ≤ n) (h2 : n ≤ 8) (h3 : -9223372036854775808 ≤ v) (h4 : v ≤ 9223372036854775807) (hv : ¬ sfits n v) : (wrap64 (v * 2 ^ (64 - 8 * n)) / 2 ^ (64 - 8 * n) != v) = true := by
  have h : n = 1 ∨ n = 2 ∨ n = 3 ∨ n = 4 ∨ n = 5 ∨ n = 6 ∨ n = 7 ∨ n = 8 := by omega
  rw [bne_iff_ne]
  unfold sfits at hv
  unfold wrap64
  rcases h with rfl | rfl | rfl | rfl | rfl | rfl | rfl | rfl <;> simp at hv ⊢ <;> omega
open Go in
theorem suns_eq (n : Nat) (v : Int) (h1 : 1 ≤ n) (h2 : n ≤ 8) : IntKind.u64.wrap (IntKind.u64.wrap v * 2 ^ (64 - 8 * n)) / 2 ^ (64 - 8 * n) = (suns n v : Int) := by
  have h : n = 1 ∨ n = 2 ∨ n = 3 ∨ n = 4 ∨ n = 5 ∨ n = 6 ∨ n = 7 ∨ n = 8 := by omega
  rw [IntKind.wrap_u64, IntKind.wrap_u64]
  unfold suns
  rcases h with rfl | rfl | rfl | rfl | rfl | rfl | rfl | rfl <;> simp <;> omega
theorem suns_lt (n : Nat) (v : Int) (h1 : 1 ≤ n) (h2 : n ≤ 8) : suns n v < 256 ^ n := by
  have h : n = 1 ∨ n = 2 ∨ n = 3 ∨ n = 4 ∨ n = 5 ∨ n = 6 ∨ n = 7 ∨ n = 8 := by omega
  unfold suns
  rcases h with rfl | rfl | rfl | rfl | rfl | rfl | rfl | rfl <;> simp <;> omega
theorem sval_suns (n : Nat) (v : Int) (h1 : 1 ≤ n) (h2 : n ≤ 8) (hv : sfits n v) : sval n (suns n v) = v := by
  have h : n = 1 ∨ n = 2 ∨ n = 3 ∨ n = 4 ∨ n = 5 ∨ n = 6 ∨ n = 7 ∨ n = 8 := by omega
  unfold sfits at hv
  unfold suns sval
  rcases h with rfl | rfl | rfl | rfl | rfl | rfl | rfl | rfl <;> simp at hv ⊢ <;> split <;> omega
theorem suns_sval (n v : Nat) (h1 : 1 ≤ n) (h2 : n ≤ 8) (hv : v < 256 ^ n) : sfits n (sval n v) ∧ suns n (sval n v) = v := by
  have h : n = 1 ∨ n = 2 ∨ n = 3 ∨ n = 4 ∨ n = 5 ∨ n = 6 ∨ n = 7 ∨ n = 8 := by omega
  unfold suns sval sfits
  rcases h with rfl | rfl | rfl | rfl | rfl | rfl | rfl | rfl <;> simp at hv ⊢ <;> split <;> omega
theorem sval_range (n v : Nat) (h1 : 1 ≤ n) (h2 : n ≤ 8) (hv : v < 256 ^ n) : -9223372036854775808 ≤ sval n v ∧ sval n v ≤ 9223372036854775807 := by
  have h : n = 1 ∨ n = 2 ∨ n = 3 ∨ n = 4 ∨ n = 5 ∨ n = 6 ∨ n = 7 ∨ n = 8 := by omega
  unfold sval
  rcases h with rfl | rfl | rfl | rfl | rfl | rfl | rfl | rfl <;> simp at hv ⊢ <;> split <;> omega

/-- Lists of bytes, one behind the other. -/
def cat (ls : List (List UInt8)) : List UInt8 := ls.flatten
theorem cat_nil : cat [] = [] := rfl
theorem cat_cons (l : List UInt8) (ls : List (List UInt8)) : cat (l :: ls) = l ++ cat ls := rfl
theorem cat_snoc (ls : List (List UInt8)) (k : Nat) (h : k < ls.length) : cat (ls.take (k + 1)) = cat (ls.take k) ++ ls[k] := by
  unfold cat
  rw [List.take_succ_eq_append_getElem h, List.flatten_append]
  simp
theorem cat_le (ls : List (List UInt8)) (k : Nat) : (cat (ls.take k)).length ≤ (cat ls).length := by
  have h : cat ls = cat (ls.take k) ++ cat (ls.drop k) := by
    unfold cat
    rw [← List.flatten_append, List.take_append_drop]
  rw [h, List.length_append]
  omega
theorem cat_all (ls : List (List UInt8)) (k : Nat) (h : ls.length ≤ k) : cat (ls.take k) = cat ls := by rw [List.take_of_length_le h]
end Go.Proofs.Ytcdacnhggpfnaaa

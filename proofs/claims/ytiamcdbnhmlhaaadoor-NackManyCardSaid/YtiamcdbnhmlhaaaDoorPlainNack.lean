/- Plain law of layer 15: what is missing. No program in sight. -/
import Derived.Test.YtiamcdbnhmlhaaaDoorPlainOct2
namespace Go.Proofs.YtiamcdbnhmlhaaaDoor

abbrev Pr : Type := UInt16 × UInt16
/-- The bits of a mask, the least first. -/
def bitsFrom : Nat → Nat → Nat → List Nat
  | 0, _, _ => []
  | f + 1, k, m => if m % 2 = 1 then k :: bitsFrom f (k + 1) (m / 2) else bitsFrom f (k + 1) (m / 2)
def bits16 (m : Nat) : List Nat := bitsFrom 16 0 m
def told (pid : UInt16) (k : Nat) : UInt16 := pid + 1 + UInt16.ofNat k
def tell (p : Pr) : List UInt16 := p.1 :: (bits16 p.2.toNat).map (told p.1)
def tells (l : List Pr) : List UInt16 := l.flatMap tell

theorem bitsFrom_zero (f k : Nat) : bitsFrom f k 0 = [] := by
  induction f generalizing k with
  | zero => rfl
  | succ f ih => simp [bitsFrom, ih]
theorem bits16_zero : bits16 0 = [] := bitsFrom_zero _ _
theorem bitsFrom_add (f k m j : Nat) (hj : j < f) (hm : m < 2 ^ j) : bitsFrom f k (m + 2 ^ j) = bitsFrom f k m ++ [k + j] := by
  induction f generalizing k m j with
  | zero => omega
  | succ f ih =>
    cases j with
    | zero =>
      obtain rfl : m = 0 := by simpa using hm
      simp [bitsFrom, bitsFrom_zero]
    | succ j =>
      have e1 : (m + 2 ^ (j + 1)) % 2 = m % 2 := by rw [Nat.pow_succ]; omega
      have e2 : (m + 2 ^ (j + 1)) / 2 = m / 2 + 2 ^ j := by rw [Nat.pow_succ]; omega
      have hm2 : m / 2 < 2 ^ j := by rw [Nat.pow_succ] at hm; omega
      simp only [bitsFrom, e1, e2]
      rw [ih (k + 1) (m / 2) j (by omega) hm2]
      have : k + 1 + j = k + (j + 1) := by omega
      split <;> simp [this]
theorem bits16_add {m j : Nat} (hj : j < 16) (hm : m < 2 ^ j) : bits16 (m + 2 ^ j) = bits16 m ++ [j] := by
  have h := bitsFrom_add 16 0 m j hj hm
  rw [Nat.zero_add] at h
  exact h
theorem bitsFrom_mem (f k m : Nat) : ∀ j ∈ bitsFrom f k m, k ≤ j ∧ j < k + f := by
  induction f generalizing k m with
  | zero => intro j hj; simp [bitsFrom] at hj
  | succ f ih =>
    intro j hj
    simp only [bitsFrom] at hj
    split at hj
    · rcases List.mem_cons.1 hj with rfl | hj
      · omega
      · have := ih _ _ j hj; omega
    · have := ih _ _ j hj; omega
theorem bitsFrom_asc (f k m : Nat) : (bitsFrom f k m).Pairwise (· < ·) := by
  induction f generalizing k m with
  | zero => exact List.Pairwise.nil
  | succ f ih =>
    simp only [bitsFrom]
    split
    · exact List.Pairwise.cons (fun j hj => by have := bitsFrom_mem _ _ _ j hj; omega) (ih _ _)
    · exact ih _ _
theorem bitsFrom_len (f k m : Nat) : (bitsFrom f k m).length ≤ f := by
  induction f generalizing k m with
  | zero => exact Nat.le_refl _
  | succ f ih =>
    simp only [bitsFrom]
    have := ih (k + 1) (m / 2)
    split <;> simp <;> omega
theorem and_two (x y : Nat) : x &&& y = 2 * (x / 2 &&& y / 2) + (x % 2) * (y % 2) := by
  have h1 : (x &&& y) / 2 = x / 2 &&& y / 2 := Nat.and_div_two
  have h2 : (x &&& y) % 2 = (x % 2) * (y % 2) := by
    have := Nat.and_mod_two_pow (a := x) (b := y) (n := 1)
    rw [Nat.pow_one] at this
    rw [this]
    have hx : x % 2 = 0 ∨ x % 2 = 1 := by omega
    have hy : y % 2 = 0 ∨ y % 2 = 1 := by omega
    rcases hx with hx | hx <;> rcases hy with hy | hy <;> rw [hx, hy] <;> rfl
  omega
/-- The least bit, and what is left. -/
theorem low_bit (f k m : Nat) (h0 : 0 < m) (hm : m < 2 ^ f) : ∃ j, j < f ∧ m &&& (2 ^ f - m) = 2 ^ j ∧ 2 ^ j ≤ m ∧ m &&& (m - 1) = m - 2 ^ j ∧ bitsFrom f k m = (k + j) :: bitsFrom f k (m - 2 ^ j) := by
  induction f generalizing k m with
  | zero => rw [Nat.pow_zero] at hm; omega
  | succ f ih =>
    by_cases h1 : m % 2 = 1
    · refine ⟨0, by omega, ?_, by rw [Nat.pow_zero]; exact h0, ?_, ?_⟩
      · rw [and_two]
        have e1 : (2 ^ (f + 1) - m) / 2 = 2 ^ f - (m / 2) - 1 := by rw [Nat.pow_succ] at hm ⊢; omega
        have e2 : (2 ^ (f + 1) - m) % 2 = 1 := by rw [Nat.pow_succ] at hm ⊢; omega
        rw [e1, e2, h1]
        have e3 : m / 2 &&& (2 ^ f - m / 2 - 1) = 0 := by
          have hlt : m / 2 < 2 ^ f := by rw [Nat.pow_succ] at hm; omega
          apply Nat.eq_of_testBit_eq
          intro i
          rw [Nat.testBit_and, Nat.sub_sub, Nat.testBit_two_pow_sub_succ hlt, Nat.zero_testBit]
          by_cases hi : (m / 2).testBit i <;> simp [hi]
        rw [e3]
      · rw [and_two]
        have e1 : (m - 1) / 2 = m / 2 := by omega
        have e2 : (m - 1) % 2 = 0 := by omega
        rw [e1, e2, Nat.and_self]
        omega
      · simp only [bitsFrom, h1, if_true, Nat.add_zero]
        have e1 : (m - 2 ^ 0) / 2 = m / 2 := by simp; omega
        have e2 : ¬ ((m - 2 ^ 0) % 2 = 1) := by simp; omega
        rw [if_neg e2, e1]
    · have h2 : m % 2 = 0 := by omega
      obtain ⟨j, hj, g1, g2, g3, g4⟩ := ih (k + 1) (m / 2) (by omega) (by rw [Nat.pow_succ] at hm; omega)
      refine ⟨j + 1, by omega, ?_, by rw [Nat.pow_succ]; omega, ?_, ?_⟩
      · rw [and_two]
        have e1 : (2 ^ (f + 1) - m) / 2 = 2 ^ f - m / 2 := by rw [Nat.pow_succ]; omega
        rw [e1, h2, g1, Nat.pow_succ]
        omega
      · rw [and_two]
        have e1 : (m - 1) / 2 = m / 2 - 1 := by omega
        rw [e1, h2, g3, Nat.pow_succ]
        omega
      · simp only [bitsFrom]
        have e1 : (m - 2 ^ (j + 1)) / 2 = m / 2 - 2 ^ j := by rw [Nat.pow_succ]; omega
        have e2 : ¬ ((m - 2 ^ (j + 1)) % 2 = 1) := by rw [Nat.pow_succ]; omega
        rw [if_neg h1, if_neg e2, e1, g4]
        congr 1
        omega
theorem low16 (m : Nat) (h0 : 0 < m) (hm : m < 65536) : ∃ j, j < 16 ∧ m &&& (65536 - m) = 2 ^ j ∧ 2 ^ j ≤ m ∧ m &&& (m - 1) = m - 2 ^ j ∧ bits16 m = j :: bits16 (m - 2 ^ j) := by
  obtain ⟨j, h1, h2, h3, h4, h5⟩ := low_bit 16 0 m h0 hm
  rw [Nat.zero_add] at h5
  exact ⟨j, h1, h2, h3, h4, h5⟩

/-- How many bits a mask takes. -/
def blen (m : Nat) : Nat := if m = 0 then 0 else Nat.log2 m + 1
theorem blen_lt (m : Nat) : m < 2 ^ blen m := by
  unfold blen
  split
  · rename_i h; subst h; simp
  · exact Nat.lt_log2_self
theorem blen_add {m j : Nat} (hm : m < 2 ^ j) : blen (m + 2 ^ j) = j + 1 := by
  unfold blen
  have hp : 0 < 2 ^ j := Nat.two_pow_pos j
  rw [if_neg (by omega)]
  congr 1
  rw [Nat.log2_eq_iff (by omega), Nat.pow_succ]
  omega
def far (p : Pr) (n : UInt16) : Nat := (n - p.1).toNat
def takesN (p : Pr) (n : UInt16) : Bool := decide (1 ≤ far p n ∧ far p n ≤ 16 ∧ blen p.2.toNat < far p n)
def join1 (p : Pr) (n : UInt16) : Pr := (p.1, UInt16.ofNat (p.2.toNat + 2 ^ (far p n - 1)))
def stepR : List Pr → UInt16 → List Pr
  | [], n => [(n, 0)]
  | p :: r, n => cond (takesN p n) (join1 p n :: r) ((n, 0) :: p :: r)
def pairsR (s : List UInt16) : List Pr := s.foldl stepR []
def pairs (s : List UInt16) : List Pr := (pairsR s).reverse
theorem takes_join {p : Pr} {n : UInt16} (h : takesN p n = true) : p.2.toNat < 2 ^ (far p n - 1) ∧ far p n - 1 < 16 ∧ p.2.toNat + 2 ^ (far p n - 1) < 65536 ∧ (join1 p n).2.toNat = p.2.toNat + 2 ^ (far p n - 1) := by
  have h := of_decide_eq_true h
  have h1 : p.2.toNat < 2 ^ (far p n - 1) := Nat.lt_of_lt_of_le (blen_lt _) (Nat.pow_le_pow_right (by omega) (by omega))
  have h2 : 2 ^ (far p n - 1) ≤ 2 ^ 15 := Nat.pow_le_pow_right (by omega) (by omega)
  have h3 : p.2.toNat + 2 ^ (far p n - 1) < 65536 := by omega
  exact ⟨h1, by omega, h3, by unfold join1; rw [UInt16.toNat_ofNat']; omega⟩
theorem tell_join {p : Pr} {n : UInt16} (h : takesN p n = true) : tell (join1 p n) = tell p ++ [n] := by
  obtain ⟨h1, h2, h3, h4⟩ := takes_join h
  have h5 := of_decide_eq_true h
  unfold tell
  rw [h4, bits16_add h2 h1, List.map_append]
  have : told p.1 (far p n - 1) = n := by
    unfold told
    apply UInt16.toNat_inj.1
    have hf : far p n = (n - p.1).toNat := rfl
    rw [UInt16.toNat_sub] at hf
    have := p.1.toNat_lt
    have := n.toNat_lt
    simp only [UInt16.toNat_add, UInt16.toNat_ofNat', UInt16.toNat_one]
    omega
  simp [this, join1]
theorem tells_step (R : List Pr) (n : UInt16) : tells (stepR R n).reverse = tells R.reverse ++ [n] := by
  cases R with
  | nil => simp [stepR, tells, tell, bits16_zero]
  | cons p r =>
    rw [stepR]
    cases h : takesN p n
    · simp [tells, tell, bits16_zero]
    · have := tell_join h
      simp only [cond_true, tells, List.reverse_cons, List.flatMap_append, List.flatMap_cons, List.flatMap_nil, List.append_nil, this, List.append_assoc]
theorem tells_fold (s : List UInt16) (R : List Pr) : tells (s.foldl stepR R).reverse = tells R.reverse ++ s := by
  induction s generalizing R with
  | nil => simp
  | cons n s ih => rw [List.foldl_cons, ih, tells_step]; simp
/-- Numbers, as pairs, are told back. -/
theorem tells_pairs (s : List UInt16) : tells (pairs s) = s := by
  unfold pairs pairsR
  rw [tells_fold]
  simp [tells]
theorem tells_append (l m : List Pr) : tells (l ++ m) = tells l ++ tells m := by simp [tells]
theorem tell_len (p : Pr) : 1 ≤ (tell p).length ∧ (tell p).length ≤ 17 := by
  have := bitsFrom_len 16 0 p.2.toNat
  unfold tell bits16
  simp
  omega
theorem tells_len (l : List Pr) : l.length ≤ (tells l).length ∧ (tells l).length ≤ 17 * l.length := by
  induction l with
  | nil => simp [tells]
  | cons p l ih =>
    have := tell_len p
    have e : (tells (p :: l)).length = (tell p).length + (tells l).length := by simp [tells]
    rw [e, List.length_cons]
    omega
theorem fold_join (pid : UInt16) : ∀ (ks : List Nat) (q : Pr) (r : List Pr) (D : Int), ks.Pairwise (· < ·) → (∀ k ∈ ks, (far q (told pid k) : Int) = D + k ∧ (blen q.2.toNat : Int) < D + k ∧ D + k ≤ 16) →
    ((ks.map (told pid)).foldl stepR (q :: r)).length = r.length + 1
  | [], q, r, D, _, _ => by simp
  | k :: ks, q, r, D, hp, h => by
    obtain ⟨h1, h2, h3⟩ := h k (by simp)
    have ht : takesN q (told pid k) = true := decide_eq_true (by omega)
    obtain ⟨g1, g2, g3, g4⟩ := takes_join ht
    rw [List.map_cons, List.foldl_cons, stepR, ht]
    have hb : blen (join1 q (told pid k)).2.toNat = far q (told pid k) := by
      rw [g4, blen_add g1]; omega
    refine fold_join pid ks (join1 q (told pid k)) r D (List.pairwise_cons.1 hp).2 fun k' hk' => ?_
    have := (List.pairwise_cons.1 hp).1 k' hk'
    obtain ⟨i1, i2, i3⟩ := h k' (by simp [hk'])
    refine ⟨i1, ?_, i3⟩
    rw [hb, h1]
    omega
theorem fold_more (pid : UInt16) : ∀ (ks : List Nat) (q : Pr) (r : List Pr) (D : Int), ks.Pairwise (· < ·) → (∀ k ∈ ks, k < 16 ∧ (far q (told pid k) : Int) = D + k ∧ (blen q.2.toNat : Int) < D + k) →
    ((ks.map (told pid)).foldl stepR (q :: r)).length ≤ r.length + 2
  | [], q, r, D, _, _ => by simp
  | k :: ks, q, r, D, hp, h => by
    obtain ⟨h0, h1, h2⟩ := h k (by simp)
    by_cases h3 : D + k ≤ 16
    · have ht : takesN q (told pid k) = true := decide_eq_true (by omega)
      obtain ⟨g1, g2, g3, g4⟩ := takes_join ht
      rw [List.map_cons, List.foldl_cons, stepR, ht]
      have hb : blen (join1 q (told pid k)).2.toNat = far q (told pid k) := by
        rw [g4, blen_add g1]; omega
      refine fold_more pid ks (join1 q (told pid k)) r D (List.pairwise_cons.1 hp).2 fun k' hk' => ?_
      have := (List.pairwise_cons.1 hp).1 k' hk'
      obtain ⟨i0, i1, i2⟩ := h k' (by simp [hk'])
      refine ⟨i0, i1, ?_⟩
      rw [hb, h1]
      omega
    · have ht : takesN q (told pid k) = false := decide_eq_false (by omega)
      rw [List.map_cons, List.foldl_cons, stepR, ht]
      have := fold_join pid ks (told pid k, 0) (q :: r) (-(k : Int)) (List.pairwise_cons.1 hp).2 fun k' hk' => by
        have hlt := (List.pairwise_cons.1 hp).1 k' hk'
        obtain ⟨i0, _, _⟩ := h k' (by simp [hk'])
        refine ⟨?_, ?_, by omega⟩
        · unfold far told
          have := pid.toNat_lt
          simp only [UInt16.toNat_sub, UInt16.toNat_add, UInt16.toNat_ofNat', UInt16.toNat_one]
          omega
        · show ((blen (0 : UInt16).toNat : Nat) : Int) < _
          simp [blen]
          omega
      rw [cond_false, this]
      simp
theorem fold_tell (p : Pr) (R : List Pr) : ((tell p).foldl stepR R).length ≤ R.length + 1 := by
  have hnew : ∀ r : List Pr, (((bits16 p.2.toNat).map (told p.1)).foldl stepR ((p.1, 0) :: r)).length = r.length + 1 := fun r =>
    fold_join p.1 _ (p.1, 0) r 1 (bitsFrom_asc _ _ _) fun k hk => by
      have := bitsFrom_mem _ _ _ k hk
      refine ⟨?_, ?_, by omega⟩
      · unfold far told
        have := p.1.toNat_lt
        simp only [UInt16.toNat_sub, UInt16.toNat_add, UInt16.toNat_ofNat', UInt16.toNat_one]
        omega
      · show ((blen (0 : UInt16).toNat : Nat) : Int) < _
        simp [blen]
        omega
  unfold tell
  rw [List.foldl_cons]
  cases R with
  | nil => rw [stepR, hnew]; simp
  | cons q r =>
    rw [stepR]
    cases ht : takesN q p.1
    · rw [cond_false, hnew]; simp
    · obtain ⟨g1, g2, g3, g4⟩ := takes_join ht
      have h5 := of_decide_eq_true ht
      have hb : blen (join1 q p.1).2.toNat = far q p.1 := by
        rw [g4, blen_add g1]; omega
      rw [cond_true]
      refine fold_more p.1 _ (join1 q p.1) r (far q p.1 + 1) (bitsFrom_asc _ _ _) fun k hk => ?_
      have := bitsFrom_mem _ _ _ k hk
      refine ⟨by omega, ?_, by rw [hb]; omega⟩
      show ((told p.1 k - q.1).toNat : Int) = _
      have hf : far q p.1 = (p.1 - q.1).toNat := rfl
      rw [UInt16.toNat_sub] at hf
      have := p.1.toNat_lt
      have := q.1.toNat_lt
      unfold told
      simp only [UInt16.toNat_sub, UInt16.toNat_add, UInt16.toNat_ofNat', UInt16.toNat_one]
      omega
/-- What pairs tell, as pairs, is told by no more of them. -/
theorem pairs_tells (l : List Pr) : (pairs (tells l)).length ≤ l.length := by
  have h : ∀ (l : List Pr) (R : List Pr), ((tells l).foldl stepR R).length ≤ R.length + l.length := by
    intro l
    induction l with
    | nil => intro R; simp [tells]
    | cons p l ih =>
      intro R
      have e : tells (p :: l) = tell p ++ tells l := by simp [tells]
      rw [e, List.foldl_append]
      have h1 := ih ((tell p).foldl stepR R)
      have h2 := fold_tell p R
      simp only [List.length_cons]
      omega
  have := h l []
  unfold pairs pairsR
  simpa using this
end Go.Proofs.YtiamcdbnhmlhaaaDoor

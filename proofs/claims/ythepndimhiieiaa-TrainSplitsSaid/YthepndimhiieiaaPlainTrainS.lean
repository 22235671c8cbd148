/- TrainSplits in plain Lean: cars joined and split. No program in sight. -/
import Derived.Test.YthepndimhiieiaaPlainTrainB
import Derived.Test.YthepndimhiieiaaAppend
namespace Go.Proofs.Ythepndimhiieiaa
/-- Whole: one car, all of it. -/
def Whole (d : List UInt8) : Prop := cE d = 0 ∧ cS d = d.length ∧ trE (cP d) (d.drop 4) = 0
theorem b_append (d r : List UInt8) (h : 4 ≤ d.length) : b0 (d ++ r) = b0 d ∧ b1 (d ++ r) = b1 d ∧ b2 (d ++ r) = b2 d ∧ b3 (d ++ r) = b3 d := by
  have e : ∀ i, i < 4 → (d ++ r).getD i 0 = d.getD i 0 := fun i hi => by
    rw [List.getD_eq_getElem?_getD, List.getD_eq_getElem?_getD, List.getElem?_append_left (by omega)]
  unfold b0 b1 b2 b3
  rw [e 0 (by omega), e 1 (by omega), e 2 (by omega), e 3 (by omega)]
  exact ⟨rfl, rfl, rfl, rfl⟩
theorem cE_zero {b : List UInt8} : cE b = 0 ↔ (4 ≤ b.length ∧ ¬ (b0 b < 128 ∨ 191 < b0 b) ∧ 4 * (256 * b2 b + b3 b + 1) ≤ b.length) := by
  unfold cE
  by_cases h1 : b.length < 4
  · rw [if_pos h1]
    constructor
    · intro h; cases h
    · intro h; omega
  rw [if_neg h1]
  by_cases h2 : b0 b < 128 ∨ 191 < b0 b
  · rw [if_pos h2]
    constructor
    · intro h; cases h
    · intro h; exact absurd h2 h.2.1
  rw [if_neg h2]
  by_cases h3 : b.length < 4 * (256 * b2 b + b3 b + 1)
  · rw [if_pos h3]
    constructor
    · intro h; cases h
    · intro h; omega
  · rw [if_neg h3]
    exact ⟨fun _ => ⟨by omega, h2, by omega⟩, fun _ => rfl⟩
theorem cS_eq {b : List UInt8} (h : cE b = 0) : cS b = 4 * (256 * b2 b + b3 b + 1) := by unfold cS; rw [if_pos h]
theorem cP_eq {b : List UInt8} (h : cE b = 0) : cP b = decide (160 ≤ b0 b) := by unfold cP; rw [h]; simp
/-- A car in front of other bytes. -/
theorem whole_front {d : List UInt8} (h : Whole d) (r : List UInt8) : cE (d ++ r) = 0 ∧ cS (d ++ r) = d.length ∧ cP (d ++ r) = cP d ∧ 4 ≤ d.length := by
  obtain ⟨h1, h2, _⟩ := h
  obtain ⟨q1, q2, q3⟩ := cE_zero.1 h1
  obtain ⟨e0, e1, e2, e3⟩ := b_append d r q1
  have hE : cE (d ++ r) = 0 := cE_zero.2 ⟨by rw [List.length_append]; omega, by rw [e0]; exact q2, by rw [e2, e3, List.length_append]; omega⟩
  refine ⟨hE, ?_, ?_, q1⟩
  · rw [cS_eq hE, e2, e3, ← cS_eq h1, h2]
  · rw [cP_eq hE, cP_eq h1, e0]
/-- Of cars one behind the other only the last one has a trailer. -/
def Cs : List (List UInt8) → Prop
  | [] => True
  | [d] => Whole d
  | d :: e :: ds => Whole d ∧ cP d = false ∧ Cs (e :: ds)
theorem Cs.head {d : List UInt8} {ds : List (List UInt8)} (h : Cs (d :: ds)) : Whole d ∧ Cs ds ∧ (ds ≠ [] → cP d = false) := by
  cases ds with
  | nil => exact ⟨h, trivial, fun q => absurd rfl q⟩
  | cons e ds => exact ⟨h.1, h.2.2, fun _ => h.2.1⟩
theorem Cs.cons {d : List UInt8} {ds : List (List UInt8)} (h : Whole d) (hs : Cs ds) (hp : ds ≠ [] → cP d = false) : Cs (d :: ds) := by
  cases ds with
  | nil => exact h
  | cons e ds => exact ⟨h, hp (by simp), hs⟩
theorem Cs.snoc {ds : List (List UInt8)} {d : List UInt8} (hs : Cs ds) (hp : ∀ x ∈ ds, cP x = false) (h : Whole d) : Cs (ds ++ [d]) := by
  induction ds with
  | nil => exact h
  | cons x ds ih =>
    obtain ⟨h1, h2, _⟩ := hs.head
    exact Cs.cons h1 (ih h2 fun y hy => hp y (by simp [hy])) fun _ => hp x (by simp)
theorem Cs.take {ds : List (List UInt8)} (h : Cs ds) (k : Nat) : Cs (ds.take k) := by
  induction ds generalizing k with
  | nil => simp [Cs]
  | cons d ds ih =>
    cases k with
    | zero => simp [Cs]
    | succ k =>
      obtain ⟨h1, h2, h3⟩ := h.head
      refine Cs.cons h1 (ih h2 k) fun q => h3 fun e => q (by rw [e]; simp)
theorem cat_cons2 (d : List UInt8) (ds : List (List UInt8)) : cat (d :: ds) = d ++ cat ds := by simp [cat]
theorem split_cat (ds : List (List UInt8)) (h : Cs ds) (f : Nat) (hf : (cat ds).length ≤ f) : spE f (cat ds) = 0 ∧ spL f (cat ds) = ds := by
  induction ds generalizing f with
  | nil => exact sp_nil f
  | cons d ds ih =>
    obtain ⟨h1, h2, h3⟩ := h.head
    obtain ⟨w1, w2, w3, w4⟩ := whole_front h1 (cat ds)
    rw [cat_cons2] at hf ⊢
    rw [List.length_append] at hf
    obtain ⟨f, rfl⟩ : ∃ k, f = k + 1 := ⟨f - 1, by omega⟩
    have hl : (d ++ cat ds).length ≠ 0 := by rw [List.length_append]; omega
    have ht : (d ++ cat ds).take d.length = d := List.take_left
    have hd : (d ++ cat ds).drop d.length = cat ds := List.drop_left
    obtain ⟨i1, i2⟩ := ih h2 f (by omega)
    have hpn : ¬ (cP d = true ∧ (cat ds).length ≠ 0) := by
      rintro ⟨q1, q2⟩
      have : ds ≠ [] := fun e => q2 (by rw [e]; rfl)
      rw [h3 this] at q1
      cases q1
    constructor
    · rw [spE, if_neg hl, if_neg (fun q => q w1), w2, w3, ht, hd, if_neg, i1]
      rintro (q | q)
      · exact hpn q
      · exact q h1.2.2
    · rw [spL, if_neg hl, w2, ht, hd, i2]
/-- Cars, and then a part of one: no train. -/
theorem split_part (ds : List (List UInt8)) (h : Cs ds) (p : List UInt8) (hp0 : p.length ≠ 0) (hp : cE p ≠ 0) (f : Nat) (hf : (cat ds ++ p).length ≤ f) : spE f (cat ds ++ p) ≠ 0 := by
  induction ds generalizing f with
  | nil =>
    rw [show cat [] = ([] : List UInt8) from rfl, List.nil_append] at hf ⊢
    obtain ⟨f, rfl⟩ : ∃ k, f = k + 1 := ⟨f - 1, by omega⟩
    rw [spE, if_neg hp0, if_pos hp]
    exact hp
  | cons d ds ih =>
    obtain ⟨h1, h2, h3⟩ := h.head
    obtain ⟨w1, w2, w3, w4⟩ := whole_front h1 (cat ds ++ p)
    rw [cat_cons2, List.append_assoc] at hf ⊢
    rw [List.length_append] at hf
    obtain ⟨f, rfl⟩ : ∃ k, f = k + 1 := ⟨f - 1, by omega⟩
    have hl : (d ++ (cat ds ++ p)).length ≠ 0 := by rw [List.length_append]; omega
    have hd : (d ++ (cat ds ++ p)).drop d.length = cat ds ++ p := List.drop_left
    rw [spE, if_neg hl, if_neg (fun q => q w1), w2, hd]
    split
    · decide
    · exact ih h2 f (by omega)
theorem part_bad {d : List UInt8} (h : Whole d) (k : Nat) (hk : k < d.length) : cE (d.take k) ≠ 0 := by
  obtain ⟨h1, h2, _⟩ := h
  intro hz
  obtain ⟨q1, q2, q3⟩ := cE_zero.1 hz
  rw [List.length_take] at q1 q3
  have e : ∀ i, i < 4 → (d.take k).getD i 0 = d.getD i 0 := fun i hi => by
    rw [List.getD_eq_getElem?_getD, List.getD_eq_getElem?_getD, List.getElem?_take, if_pos (by omega)]
  have e2 : b2 (d.take k) = b2 d := by unfold b2; rw [e 2 (by omega)]
  have e3 : b3 (d.take k) = b3 d := by unfold b3; rw [e 3 (by omega)]
  rw [e2, e3, ← cS_eq h1, h2] at q3
  omega
/-- What was closed is whole. -/
theorem close_whole (k c : Int) (body : List UInt8) (t : Nat) (h : clOK k c body.length t = true) : Whole (clBytes k c body t) ∧ (cP (clBytes k c body t) = true → 0 < t) := by
  obtain ⟨q0, q1, q2, q3, q4, q5, q6⟩ := close_open k c body t h
  obtain ⟨h0, hS, _, _, _, _, _, hP, _, _⟩ := open_parts _ q0
  have hl := cl_len k c body t h
  refine ⟨⟨h0, hS, ?_⟩, ?_⟩
  · have := q0
    unfold oE at this
    rw [if_neg (fun q => q h0), if_neg (by omega)] at this
    exact this
  · intro q
    rw [q5] at hP
    rw [← hP] at q
    exact of_decide_eq_true q
/-- A train split: its parts joined; each can be opened; a trailer is the last one's. -/
theorem split_parts (f : Nat) (b : List UInt8) (hf : b.length ≤ f) (h : spE f b = 0) : cat (spL f b) = b ∧ ∀ i, ∀ hi : i < (spL f b).length, oE (spL f b)[i] = 0 ∧ (0 < oN (spL f b)[i] → i + 1 = (spL f b).length) := by
  induction f generalizing b with
  | zero =>
    have : b = [] := List.eq_nil_of_length_eq_zero (by omega)
    subst this
    exact ⟨rfl, fun i hi => absurd hi (by simp [spL])⟩
  | succ f ih =>
    by_cases h0 : b.length = 0
    · have : b = [] := List.eq_nil_of_length_eq_zero h0
      subst this
      rw [(sp_nil (f + 1)).2]
      exact ⟨rfl, fun i hi => absurd hi (by simp)⟩
    · rw [spE, if_neg h0] at h
      by_cases h1 : cE b = 0
      case neg => rw [if_pos h1] at h; exact absurd h h1
      rw [if_neg (fun q => q h1)] at h
      obtain ⟨z1, z2, _, _⟩ := cS_ge h1
      split at h
      · exact absurd h (by decide)
      · rename_i hbad
        have hl : spL (f + 1) b = b.take (cS b) :: spL f (b.drop (cS b)) := by rw [spL, if_neg h0]
        obtain ⟨i1, i2⟩ := ih (b.drop (cS b)) (by rw [List.length_drop]; omega) h
        rw [hl]
        refine ⟨by rw [cat_cons2, i1, List.take_append_drop], ?_⟩
        intro i hi
        have hE : trE (cP b) ((b.take (cS b)).drop 4) = 0 := by
          rcases trE_or (cP b) ((b.take (cS b)).drop 4) with q | q
          · exact q
          · exact absurd (Or.inr (by rw [q]; decide)) hbad
        cases i with
        | zero =>
          have ho : oE (b.take (cS b)) = 0 := by rw [car_same h1]; exact hE
          refine ⟨ho, ?_⟩
          intro hn
          have hn : 0 < oN (b.take (cS b)) := hn
          obtain ⟨h0', _, _, _, _, _, _, hP, _, _⟩ := open_parts _ ho
          have hp : cP (b.take (cS b)) = true := by rw [← hP]; exact decide_eq_true hn
          have hpb : cP b = true := by
            rw [cP_eq h0'] at hp
            rw [cP_eq h1]
            have e0 : b0 (b.take (cS b)) = b0 b := by unfold b0; rw [getD_take _ _ _ (by omega)]
            rw [e0] at hp
            exact hp
          have hd0 : (b.drop (cS b)).length = 0 := by
            rcases Nat.eq_zero_or_pos (b.drop (cS b)).length with q | q
            · exact q
            · exact absurd (Or.inl ⟨hpb, by omega⟩) hbad
          have : b.drop (cS b) = [] := List.eq_nil_of_length_eq_zero hd0
          rw [this, (sp_nil f).2]
          rfl
        | succ i =>
          have hi' : i < (spL f (b.drop (cS b))).length := by simpa using hi
          obtain ⟨j1, j2⟩ := i2 i hi'
          simp only [List.getElem_cons_succ, List.length_cons]
          exact ⟨j1, fun q => by have := j2 q; omega⟩
theorem Cs.mem {ds : List (List UInt8)} (h : Cs ds) : ∀ d ∈ ds, Whole d := by
  induction ds with
  | nil => intro d hd; simp at hd
  | cons x ds ih =>
    obtain ⟨h1, h2, _⟩ := h.head
    intro d hd
    rcases List.mem_cons.1 hd with rfl | hd
    · exact h1
    · exact ih h2 d hd
theorem cat_split (ds : List (List UInt8)) (k : Nat) : cat ds = cat (ds.take k) ++ cat (ds.drop k) := by
  conv => lhs; rw [← List.take_append_drop k ds]
  unfold cat
  rw [List.flatten_append]
theorem cat_next (ds : List (List UInt8)) (j : Nat) (h : j < ds.length) : (cat (ds.take (j + 1))).length = (cat (ds.take j)).length + ds[j].length := by
  rw [cat_snoc ds j h, List.length_append]
theorem cut_at (ds : List (List UInt8)) (h : Cs ds) (j k : Nat) (hk : (cat (ds.take j)).length = k) (h0 : 0 < k) : sE ((cat ds).take k) = 0 ∧ sL ((cat ds).take k) = ds.take j := by
  have e : (cat ds).take k = cat (ds.take j) := by rw [cat_split ds j, ← hk, List.take_left]
  rw [e]
  obtain ⟨h1, h2⟩ := split_cat (ds.take j) (h.take j) (cat (ds.take j)).length (Nat.le_refl _)
  have hE : sE (cat (ds.take j)) = 0 := by unfold sE; rw [if_neg (by omega)]; exact h1
  refine ⟨hE, ?_⟩
  unfold sL
  rw [if_pos hE]
  exact h2
theorem cut_in (ds : List (List UInt8)) (h : Cs ds) (j k : Nat) (hj : j < ds.length) (h1 : (cat (ds.take j)).length < k) (h2 : k < (cat (ds.take (j + 1))).length) : sE ((cat ds).take k) ≠ 0 := by
  rw [cat_next ds j hj] at h2
  have hw := h.mem ds[j] (List.getElem_mem hj)
  have hl : k ≤ (cat ds).length := by
    have := congrArg List.length (cat_split ds (j + 1))
    rw [List.length_append, cat_next ds j hj] at this
    omega
  have e : (cat ds).take k = cat (ds.take j) ++ (ds[j]).take (k - (cat (ds.take j)).length) := by
    rw [cat_split ds (j + 1), cat_snoc ds j hj, List.append_assoc, List.take_append, List.take_of_length_le (by omega), List.take_append_of_le_length (by omega)]
  have hp := part_bad hw (k - (cat (ds.take j)).length) (by omega)
  have hlen : ((cat ds).take k).length = k := by rw [List.length_take]; omega
  unfold sE
  rw [if_neg (by omega), hlen, e]
  exact split_part (ds.take j) (h.take j) _ (by rw [List.length_take]; omega) hp k (by rw [← e, hlen]; exact Nat.le_refl _)
theorem all_split (ds : List (List UInt8)) (h : Cs ds) (h0 : ds ≠ []) : sE (cat ds) = 0 ∧ sL (cat ds) = ds ∧ 0 < (cat ds).length := by
  have hl : 0 < (cat ds).length := by
    cases ds with
    | nil => exact absurd rfl h0
    | cons d ds =>
      have := (whole_front h.head.1 []).2.2.2
      rw [cat_cons2, List.length_append]
      omega
  obtain ⟨h1, h2⟩ := split_cat ds h (cat ds).length (Nat.le_refl _)
  have hE : sE (cat ds) = 0 := by unfold sE; rw [if_neg (by omega)]; exact h1
  refine ⟨hE, ?_, hl⟩
  unfold sL
  rw [if_pos hE]
  exact h2
theorem split_back (b : List UInt8) (h : sE b = 0) : cat (sL b) = b ∧ (∀ i, ∀ hi : i < (sL b).length, oE (sL b)[i] = 0 ∧ (0 < oN (sL b)[i] → i + 1 = (sL b).length)) := by
  have e : sL b = spL b.length b := by unfold sL; rw [if_pos h]
  unfold sE at h
  split at h
  · exact absurd h (by decide)
  · rw [e]
    exact split_parts b.length b (Nat.le_refl _) h
end Go.Proofs.Ythepndimhiieiaa

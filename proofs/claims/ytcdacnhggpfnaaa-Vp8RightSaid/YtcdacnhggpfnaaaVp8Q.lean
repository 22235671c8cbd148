/- Descriptors of VP8, held against each other. -/
import Derived.Test.YtcdacnhggpfnaaaVp8F
namespace Go.Proofs.Ytcdacnhggpfnaaa
open Go.RowKit
theorem eq_chain {p : Prop} [Decidable p] {q r : Bool} {X : Result Value} {w : World} (hq : q = true ↔ p) (h : X = .ok (.bool r) w) : (if p then X else .ok (.bool false) w) = .ok (.bool (q && r)) w := by
  subst h
  by_cases hp : p
  · rw [if_pos hp, hq.2 hp]; rfl
  · rw [if_neg hp]
    cases q
    · rfl
    · exact absurd (hq.1 rfl) hp
theorem eq_chain1 {p : Prop} [Decidable p] {q : Bool} {w : World} (hq : q = true ↔ p) : (if p then Result.ok (Value.bool true) w else .ok (Value.bool false) w) = .ok (Value.bool q) w := by
  have := eq_chain (r := true) (X := .ok (.bool true) w) hq rfl
  rwa [Bool.and_true] at this
theorem ne_chain {p : Prop} [Decidable p] {q r : Bool} {X : Result Value} {w : World} (hq : q = true ↔ p) (h : X = .ok (.bool r) w) : (if p then X else .ok (.bool true) w) = .ok (.bool (!q || r)) w := by
  subst h
  by_cases hp : p
  · rw [if_pos hp, hq.2 hp]; rfl
  · rw [if_neg hp]
    cases q
    · rfl
    · exact absurd (hq.1 rfl) hp
theorem ne_chain1 {p : Prop} [Decidable p] {q : Bool} {w : World} (hq : q = true ↔ p) : (if p then Result.ok (Value.bool false) w else .ok (Value.bool true) w) = .ok (Value.bool (!q)) w := by
  have := ne_chain (r := false) (X := .ok (.bool false) w) hq rfl
  rwa [Bool.or_false] at this
def v8eq (d k : V8) : Bool := (d.alone == k.alone) && ((d.start == k.start) && ((d.part == k.part) && ((d.hasPic == k.hasPic) && ((d.wide == k.wide) && ((d.pic == k.pic) && ((d.hasLevel == k.hasLevel) && ((d.level == k.level) && ((d.hasTid == k.hasTid) && ((d.hasKey == k.hasKey) && ((d.tid == k.tid) && ((d.sync == k.sync) && (d.key == k.key))))))))))))
theorem v8eq_iff (d k : V8) : v8eq d k = true ↔ d = k := by
  obtain ⟨a0, a1, a2, a3, a4, a5, a6, a7, a8, a9, a10, a11, a12⟩ := d
  obtain ⟨b0, b1, b2, b3, b4, b5, b6, b7, b8, b9, b10, b11, b12⟩ := k
  simp [v8eq]
theorem v8eq_refl (d : V8) : v8eq d d = true := (v8eq_iff d d).2 rfl
theorem eql_vp8 (d k : V8) (w : World) : (binOp .eql 45 (.agg #[.bool d.alone, .bool d.start, .int .i64 d.part, .bool d.hasPic, .bool d.wide, .int .i64 d.pic, .bool d.hasLevel, .int .i64 d.level, .bool d.hasTid, .bool d.hasKey, .int .i64 d.tid, .bool d.sync, .int .i64 d.key]) (.agg #[.bool k.alone, .bool k.start, .int .i64 k.part, .bool k.hasPic, .bool k.wide, .int .i64 k.pic, .bool k.hasLevel, .int .i64 k.level, .bool k.hasTid, .bool k.hasKey, .int .i64 k.tid, .bool k.sync, .int .i64 k.key])).run Try.prog w = .ok (.bool (v8eq d k)) w := by
  rw [run_eql_struct, run_equalIn_struct w 9999 _ _ _ (by kernel_rfl) (by kernel_rfl)]
  have u3 := Try.underlying3
  have a3 := Try.isAgg3
  have z3 := Try.sizeOf3
  have u2 := Try.underlying4
  have a2 := Try.isAgg4
  have z2 := Try.sizeOf4
  simp only [Program.fieldsOf, Try.underlying45]
  obtain ⟨a0, a1, a2, a3, a4, a5, a6, a7, a8, a9, a10, a11, a12⟩ := d
  obtain ⟨b0, b1, b2, b3, b4, b5, b6, b7, b8, b9, b10, b11, b12⟩ := k
  unfold v8eq
  dsimp only
  go_simp
  iterate 12 refine eq_chain (by simp) ?_
  exact eq_chain1 (by simp)
theorem neq_vp8 (d k : V8) (w : World) : (binOp .neq 45 (.agg #[.bool d.alone, .bool d.start, .int .i64 d.part, .bool d.hasPic, .bool d.wide, .int .i64 d.pic, .bool d.hasLevel, .int .i64 d.level, .bool d.hasTid, .bool d.hasKey, .int .i64 d.tid, .bool d.sync, .int .i64 d.key]) (.agg #[.bool k.alone, .bool k.start, .int .i64 k.part, .bool k.hasPic, .bool k.wide, .int .i64 k.pic, .bool k.hasLevel, .int .i64 k.level, .bool k.hasTid, .bool k.hasKey, .int .i64 k.tid, .bool k.sync, .int .i64 k.key])).run Try.prog w = .ok (.bool (!v8eq d k)) w := by
  rw [run_neq_struct, run_equalIn_struct w 9999 _ _ _ (by kernel_rfl) (by kernel_rfl)]
  have u3 := Try.underlying3
  have a3 := Try.isAgg3
  have z3 := Try.sizeOf3
  have u2 := Try.underlying4
  have a2 := Try.isAgg4
  have z2 := Try.sizeOf4
  simp only [Program.fieldsOf, Try.underlying45]
  obtain ⟨a0, a1, a2, a3, a4, a5, a6, a7, a8, a9, a10, a11, a12⟩ := d
  obtain ⟨b0, b1, b2, b3, b4, b5, b6, b7, b8, b9, b10, b11, b12⟩ := k
  unfold v8eq
  dsimp only
  go_simp
  iterate 12 refine ne_chain (by simp) ?_
  exact ne_chain1 (by simp)
end Go.Proofs.Ytcdacnhggpfnaaa

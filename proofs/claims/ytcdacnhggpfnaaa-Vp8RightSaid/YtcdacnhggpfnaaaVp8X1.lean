/- The document's Right and put of layer 23: the walks. -/
import Derived.Test.YtcdacnhggpfnaaaVp8F
import Derived.Deep.DeepCutAuto
namespace Go.Proofs.Ytcdacnhggpfnaaa
open Go.RowKit
def fC1 (d : V8) : Prop := d.part < 0 ∨ 7 < d.part ∨ d.pic < 0 ∨ 32767 < d.pic ∨ (127 < d.pic ∧ d.wide = false)
def fC2 (d : V8) : Prop := d.hasPic = false ∧ (d.wide = true ∨ d.pic ≠ 0 ∨ d.hasLevel = true)
def fC3 (d : V8) : Prop := d.level < 0 ∨ 255 < d.level ∨ (d.hasLevel = false ∧ d.level ≠ 0)
def fC4 (d : V8) : Prop := d.tid < 0 ∨ 3 < d.tid ∨ (d.hasTid = false ∧ d.tid ≠ 0) ∨ (d.hasTid = false ∧ d.hasKey = false ∧ d.sync = true)
def fC5 (d : V8) : Prop := 0 ≤ d.key ∧ d.key < 32 ∧ (d.hasKey = true ∨ d.key = 0)
instance (d : V8) : Decidable (fC1 d) := by unfold fC1; exact inferInstance
instance (d : V8) : Decidable (fC2 d) := by unfold fC2; exact inferInstance
instance (d : V8) : Decidable (fC3 d) := by unfold fC3; exact inferInstance
instance (d : V8) : Decidable (fC4 d) := by unfold fC4; exact inferInstance
instance (d : V8) : Decidable (fC5 d) := by unfold fC5; exact inferInstance
theorem v8Right_ref (d : V8) : v8Right d = true ↔ ¬ fC1 d ∧ ¬ fC2 d ∧ ¬ fC3 d ∧ ¬ fC4 d ∧ fC5 d := by
  obtain ⟨a, s, p, hp, wi, pc, hl, lv, ht, hk, ti, sy, ky⟩ := d
  unfold v8Right v8In v8W fC1 fC2 fC3 fC4 fC5
  dsimp only
  cases hp <;> cases wi <;> cases hl <;> cases ht <;> cases hk <;> cases sy <;> simp <;> omega
set_option maxRecDepth 100000 in
set_option maxHeartbeats 4000000 in
theorem rfright_any (d : V8) (w : World) (r : Bool) (hr : v8Right d = r) : Calls Try.prog 18 #[.agg #[.bool d.alone, .bool d.start, .int .i64 d.part, .bool d.hasPic, .bool d.wide, .int .i64 d.pic, .bool d.hasLevel, .int .i64 d.level, .bool d.hasTid, .bool d.hasKey, .int .i64 d.tid, .bool d.sync, .int .i64 d.key]] w fun e w' => e = .returned (.bool r) ∧ Ext w w' := by
  have hbx := Blk.new w 45 #[.bool d.alone, .bool d.start, .int .i64 d.part, .bool d.hasPic, .bool d.wide, .int .i64 d.pic, .bool d.hasLevel, .int .i64 d.level, .bool d.hasTid, .bool d.hasKey, .int .i64 d.tid, .bool d.sync, .int .i64 d.key]
  have hE := (Ext.refl w).alloc (.cells #[.bool d.alone, .bool d.start, .int .i64 d.part, .bool d.hasPic, .bool d.wide, .int .i64 d.pic, .bool d.hasLevel, .int .i64 d.level, .bool d.hasTid, .bool d.hasKey, .int .i64 d.tid, .bool d.sync, .int .i64 d.key] 45)
  have hrf := v8Right_ref d
  obtain ⟨b1, h1⟩ : ∃ b, decide (fC1 d) = b := ⟨_, rfl⟩
  obtain ⟨b2, h2⟩ : ∃ b, decide (fC2 d) = b := ⟨_, rfl⟩
  obtain ⟨b3, h3⟩ : ∃ b, decide (fC3 d) = b := ⟨_, rfl⟩
  obtain ⟨b4, h4⟩ : ∃ b, decide (fC4 d) = b := ⟨_, rfl⟩
  obtain ⟨b5, h5⟩ : ∃ b, decide (fC5 d) = b := ⟨_, rfl⟩
  have hrr : r = (!b1 && (!b2 && (!b3 && (!b4 && b5)))) := by
    rw [← hr, Bool.eq_iff_iff, hrf, ← h1, ← h2, ← h3, ← h4, ← h5]
    simp
  clear hr hrf
  unfold fC1 at h1
  unfold fC2 at h2
  unfold fC3 at h3
  unfold fC4 at h4
  unfold fC5 at h5
  obtain ⟨a, s, p, hp, wi, pc, hl, lv, ht, hk, ti, sy, ky⟩ := d
  dsimp only at *
  have H1 := hide h1
  have H2 := hide h2
  have H3 := hide h3
  have H4 := hide h4
  have H5 := hide h5
  have HR := hide hrr
  clear h1 h2 h3 h4 h5 hrr
  go_enter Try.func18, Try.ntmps18
  go_upto_region 1 with fail
  generalize hgw : w.alloc (.cells #[.bool a, .bool s, .int .i64 p, .bool hp, .bool wi, .int .i64 pc, .bool hl, .int .i64 lv, .bool ht, .bool hk, .int .i64 ti, .bool sy, .int .i64 ky] 45) = w1 at *
  clear hgw
  go_cut [30] (fun v wx => v = .bool b1 ∧ wx = w1)
  case first => as_aux_lemma =>
    obtain ⟨⟨x0, x1, x2, x3, x4, x5, x6, x7, x8, x9, x10, x11, x12⟩, xf, _⟩ := hbx.thirteen
    cases wi
    all_goals
      go_wp2_with fail
      all_goals (go_meet; exact ⟨congrArg Value.bool (by rw [← H1.out, Bool.eq_iff_iff]; first | (simp; done) | (simp; omega) | (simp [*]; done) | (simp [*]; omega)), rfl⟩)
  case rest =>
    obtain ⟨rfl, rfl⟩ := hcut
    cases b1
    case true =>
      obtain rfl : r = false := by rw [HR.out]; rfl
      go_wp2_with fail
      go_ret
      exact ⟨rfl, hE⟩
    go_upto_region 3 with fail
    go_cut [46] (fun v wx => v = .bool b2 ∧ wx = wc)
    case first => as_aux_lemma =>
      obtain ⟨⟨x0, x1, x2, x3, x4, x5, x6, x7, x8, x9, x10, x11, x12⟩, xf, _⟩ := hbx.thirteen
      cases hp
      · cases wi
        · cases hl
          · by_cases hq : pc = 0
            · subst hq
              go_wp2_with fail
              all_goals (go_meet; exact ⟨congrArg Value.bool (by rw [← H2.out, Bool.eq_iff_iff]; first | (simp; done) | (simp; omega) | (simp [*]; done) | (simp [*]; omega)), rfl⟩)
            · have hq1 : (pc != 0) = true := bne_iff_ne.2 hq
              go_wp2_with fail
              all_goals (go_meet; exact ⟨congrArg Value.bool (by rw [← H2.out, Bool.eq_iff_iff]; first | (simp; done) | (simp; omega) | (simp [*]; done) | (simp [*]; omega)), rfl⟩)
          · by_cases hq : pc = 0
            · subst hq
              go_wp2_with fail
              all_goals (go_meet; exact ⟨congrArg Value.bool (by rw [← H2.out, Bool.eq_iff_iff]; first | (simp; done) | (simp; omega) | (simp [*]; done) | (simp [*]; omega)), rfl⟩)
            · have hq1 : (pc != 0) = true := bne_iff_ne.2 hq
              go_wp2_with fail
              all_goals (go_meet; exact ⟨congrArg Value.bool (by rw [← H2.out, Bool.eq_iff_iff]; first | (simp; done) | (simp; omega) | (simp [*]; done) | (simp [*]; omega)), rfl⟩)
        · go_wp2_with fail
          all_goals (go_meet; exact ⟨congrArg Value.bool (by rw [← H2.out, Bool.eq_iff_iff]; first | (simp; done) | (simp; omega) | (simp [*]; done) | (simp [*]; omega)), rfl⟩)
      · go_wp2_with fail
        all_goals (go_meet; exact ⟨congrArg Value.bool (by rw [← H2.out, Bool.eq_iff_iff]; first | (simp; done) | (simp; omega) | (simp [*]; done) | (simp [*]; omega)), rfl⟩)
    case rest =>
      obtain ⟨rfl, rfl⟩ := hcut
      cases b2
      case true =>
        obtain rfl : r = false := by rw [HR.out]; rfl
        go_wp2_with fail
        go_ret
        exact ⟨rfl, hE⟩
      go_upto_region 5 with fail
      go_cut [64] (fun v wx => v = .bool b3 ∧ wx = wc)
      case first => as_aux_lemma =>
        obtain ⟨⟨x0, x1, x2, x3, x4, x5, x6, x7, x8, x9, x10, x11, x12⟩, xf, _⟩ := hbx.thirteen
        cases hl
        · by_cases hq : lv = 0
          · subst hq
            go_wp2_with fail
            all_goals (go_meet; exact ⟨congrArg Value.bool (by rw [← H3.out, Bool.eq_iff_iff]; first | (simp; done) | (simp; omega) | (simp [*]; done) | (simp [*]; omega)), rfl⟩)
          · have hq1 : (lv != 0) = true := bne_iff_ne.2 hq
            go_wp2_with fail
            all_goals (go_meet; exact ⟨congrArg Value.bool (by rw [← H3.out, Bool.eq_iff_iff]; first | (simp; done) | (simp; omega) | (simp [*]; done) | (simp [*]; omega)), rfl⟩)
        · go_wp2_with fail
          all_goals (go_meet; exact ⟨congrArg Value.bool (by rw [← H3.out, Bool.eq_iff_iff]; first | (simp; done) | (simp; omega) | (simp [*]; done) | (simp [*]; omega)), rfl⟩)
      case rest =>
        obtain ⟨rfl, rfl⟩ := hcut
        cases b3
        case true =>
          obtain rfl : r = false := by rw [HR.out]; simp
          go_wp2_with fail
          go_ret
          exact ⟨rfl, hE⟩
        go_upto_region 7 with fail
        go_cut [96] (fun v wx => v = .bool b4 ∧ wx = wc)
        case first => as_aux_lemma =>
          obtain ⟨⟨x0, x1, x2, x3, x4, x5, x6, x7, x8, x9, x10, x11, x12⟩, xf, _⟩ := hbx.thirteen
          cases ht
          · cases hk
            · cases sy
              · by_cases hq : ti = 0
                · subst hq
                  go_wp2_with fail
                  all_goals (go_meet; exact ⟨congrArg Value.bool (by rw [← H4.out, Bool.eq_iff_iff]; first | (simp; done) | (simp; omega) | (simp [*]; done) | (simp [*]; omega)), rfl⟩)
                · have hq1 : (ti != 0) = true := bne_iff_ne.2 hq
                  go_wp2_with fail
                  all_goals (go_meet; exact ⟨congrArg Value.bool (by rw [← H4.out, Bool.eq_iff_iff]; first | (simp; done) | (simp; omega) | (simp [*]; done) | (simp [*]; omega)), rfl⟩)
              · by_cases hq : ti = 0
                · subst hq
                  go_wp2_with fail
                  all_goals (go_meet; exact ⟨congrArg Value.bool (by rw [← H4.out, Bool.eq_iff_iff]; first | (simp; done) | (simp; omega) | (simp [*]; done) | (simp [*]; omega)), rfl⟩)
                · have hq1 : (ti != 0) = true := bne_iff_ne.2 hq
                  go_wp2_with fail
                  all_goals (go_meet; exact ⟨congrArg Value.bool (by rw [← H4.out, Bool.eq_iff_iff]; first | (simp; done) | (simp; omega) | (simp [*]; done) | (simp [*]; omega)), rfl⟩)
            · by_cases hq : ti = 0
              · subst hq
                go_wp2_with fail
                all_goals (go_meet; exact ⟨congrArg Value.bool (by rw [← H4.out, Bool.eq_iff_iff]; first | (simp; done) | (simp; omega) | (simp [*]; done) | (simp [*]; omega)), rfl⟩)
              · have hq1 : (ti != 0) = true := bne_iff_ne.2 hq
                go_wp2_with fail
                all_goals (go_meet; exact ⟨congrArg Value.bool (by rw [← H4.out, Bool.eq_iff_iff]; first | (simp; done) | (simp; omega) | (simp [*]; done) | (simp [*]; omega)), rfl⟩)
          · go_wp2_with fail
            all_goals (go_meet; exact ⟨congrArg Value.bool (by rw [← H4.out, Bool.eq_iff_iff]; first | (simp; done) | (simp; omega) | (simp [*]; done) | (simp [*]; omega)), rfl⟩)
        case rest =>
          obtain ⟨rfl, rfl⟩ := hcut
          cases b4
          case true =>
            obtain rfl : r = false := by rw [HR.out]; simp
            go_wp2_with fail
            go_ret
            exact ⟨rfl, hE⟩
          obtain ⟨⟨x0, x1, x2, x3, x4, x5, x6, x7, x8, x9, x10, x11, x12⟩, xf, _⟩ := hbx.thirteen
          have hq0 : ky = 0 ∨ (ky != 0) = true := by
            rcases Decidable.em (ky = 0) with h | h
            · exact .inl h
            · exact .inr (bne_iff_ne.2 h)
          cases hk
          all_goals
            rcases hq0 with rfl | hq0
            all_goals
             go_wp2_with fail
             all_goals
              go_ret
              exact ⟨ret_boolV (by rw [HR.out, ← H5.out]; first | (simp; done) | (simp; omega) | (simp [*]; done) | (simp [*]; omega)), hE⟩
set_option maxRecDepth 100000 in
set_option maxHeartbeats 1000000 in
theorem rfput_any (b : Bool) (n : Int) (w : World) : Calls Try.prog 50 #[.bool b, .int .i64 n] w fun e w' => e = .returned (.int .i64 (if b = true then n else 0)) ∧ w = w' := by
  cases b
  all_goals
    go_enter Try.func50, Try.ntmps50
    go_wp2_with fail
    go_ret
    exact ⟨rfl, rfl⟩
end Go.Proofs.Ytcdacnhggpfnaaa

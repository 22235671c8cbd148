/- Vp8Back: the walk. -/
import Derived.Test.YtcdacnhggpfnaaaVp8Aw
import Derived.Deep.DeepCutAuto
import Derived.BigQuiet
namespace Go.Proofs.Ytcdacnhggpfnaaa
open Go.RowKit
theorem v8write_two (d : V8) (w : World) (y : List UInt8) (hy : v8WL d = y) (N : Nat) (hN : y.length = N) (E : Int) (hE : v8WE d = E) : Calls Try.prog 19 #[.agg #[.bool d.alone, .bool d.start, .int .i64 d.part, .bool d.hasPic, .bool d.wide, .int .i64 d.pic, .bool d.hasLevel, .int .i64 d.level, .bool d.hasTid, .bool d.hasKey, .int .i64 d.tid, .bool d.sync, .int .i64 d.key]] w fun e w' => ∃ A' c', e = .returned (.tuple #[.slice A' N c', .int .i64 E]) ∧ Bytes w' A' N c' y ∧ Ext w w' := v8write_B d w y hy N hN E hE
theorem eql_ok {d : V8} {s : Bool} (k : V8) (hs : v8eq d k = s) (w : World) : (binOp .eql 45 (.agg #[.bool d.alone, .bool d.start, .int .i64 d.part, .bool d.hasPic, .bool d.wide, .int .i64 d.pic, .bool d.hasLevel, .int .i64 d.level, .bool d.hasTid, .bool d.hasKey, .int .i64 d.tid, .bool d.sync, .int .i64 d.key]) (.agg #[.bool k.alone, .bool k.start, .int .i64 k.part, .bool k.hasPic, .bool k.wide, .int .i64 k.pic, .bool k.hasLevel, .int .i64 k.level, .bool k.hasTid, .bool k.hasKey, .int .i64 k.tid, .bool k.sync, .int .i64 k.key])).run Try.prog w = .ok (.bool s) w := by rw [← hs]; exact eql_vp8 d k w
theorem neq_ok {d : V8} {s : Bool} (k : V8) (hs : v8eq d k = s) (w : World) : (binOp .neq 45 (.agg #[.bool d.alone, .bool d.start, .int .i64 d.part, .bool d.hasPic, .bool d.wide, .int .i64 d.pic, .bool d.hasLevel, .int .i64 d.level, .bool d.hasTid, .bool d.hasKey, .int .i64 d.tid, .bool d.sync, .int .i64 d.key]) (.agg #[.bool k.alone, .bool k.start, .int .i64 k.part, .bool k.hasPic, .bool k.wide, .int .i64 k.pic, .bool k.hasLevel, .int .i64 k.level, .bool k.hasTid, .bool k.hasKey, .int .i64 k.tid, .bool k.sync, .int .i64 k.key])).run Try.prog w = .ok (.bool (!s)) w := by rw [← hs]; exact neq_vp8 d k w
theorem neq_zeroV (w : World) : (binOp .neq 45 (.agg #[.bool false, .bool false, .int .i64 0, .bool false, .bool false, .int .i64 0, .bool false, .int .i64 0, .bool false, .bool false, .int .i64 0, .bool false, .int .i64 0]) (.agg #[.bool false, .bool false, .int .i64 0, .bool false, .bool false, .int .i64 0, .bool false, .int .i64 0, .bool false, .bool false, .int .i64 0, .bool false, .int .i64 0])).run Try.prog w = .ok (.bool false) w := neq_ok v8Zero (v8eq_refl v8Zero) w
theorem eql_zeroV (w : World) : (binOp .eql 45 (.agg #[.bool false, .bool false, .int .i64 0, .bool false, .bool false, .int .i64 0, .bool false, .int .i64 0, .bool false, .bool false, .int .i64 0, .bool false, .int .i64 0]) (.agg #[.bool false, .bool false, .int .i64 0, .bool false, .bool false, .int .i64 0, .bool false, .int .i64 0, .bool false, .bool false, .int .i64 0, .bool false, .int .i64 0])).run Try.prog w = .ok (.bool true) w := eql_ok v8Zero (v8eq_refl v8Zero) w
set_option maxRecDepth 100000 in
set_option maxHeartbeats 8000000 in
theorem law_vp8back (d k : V8) (A : Option Addr) (n c : Nat) (b : List UInt8) (cut : Nat) (hcut8 : cut < 256) (w : World) (hb : Bytes w A n c b) :
    Calls Try.prog 6 #[.agg #[.bool d.alone, .bool d.start, .int .i64 d.part, .bool d.hasPic, .bool d.wide, .int .i64 d.pic, .bool d.hasLevel, .int .i64 d.level, .bool d.hasTid, .bool d.hasKey, .int .i64 d.tid, .bool d.sync, .int .i64 d.key], .agg #[.bool k.alone, .bool k.start, .int .i64 k.part, .bool k.hasPic, .bool k.wide, .int .i64 k.pic, .bool k.hasLevel, .int .i64 k.level, .bool k.hasTid, .bool k.hasKey, .int .i64 k.tid, .bool k.sync, .int .i64 k.key], .slice A n c, .int .u8 (cut : Int)] w fun e w' => e = .returned (.bool true) ∧ Ext w w' := by
  have hbx := (Blk.new w 45 #[.bool d.alone, .bool d.start, .int .i64 d.part, .bool d.hasPic, .bool d.wide, .int .i64 d.pic, .bool d.hasLevel, .int .i64 d.level, .bool d.hasTid, .bool d.hasKey, .int .i64 d.tid, .bool d.sync, .int .i64 d.key]).alloc (.cells #[.bool k.alone, .bool k.start, .int .i64 k.part, .bool k.hasPic, .bool k.wide, .int .i64 k.pic, .bool k.hasLevel, .int .i64 k.level, .bool k.hasTid, .bool k.hasKey, .int .i64 k.tid, .bool k.sync, .int .i64 k.key] 45)
  have hbk := Blk.new (w.alloc (.cells #[.bool d.alone, .bool d.start, .int .i64 d.part, .bool d.hasPic, .bool d.wide, .int .i64 d.pic, .bool d.hasLevel, .int .i64 d.level, .bool d.hasTid, .bool d.hasKey, .int .i64 d.tid, .bool d.sync, .int .i64 d.key] 45)) 45 #[.bool k.alone, .bool k.start, .int .i64 k.part, .bool k.hasPic, .bool k.wide, .int .i64 k.pic, .bool k.hasLevel, .int .i64 k.level, .bool k.hasTid, .bool k.hasKey, .int .i64 k.tid, .bool k.sync, .int .i64 k.key]
  rw [World.size_alloc] at hbk
  have hE := ((Ext.refl w).alloc (.cells #[.bool d.alone, .bool d.start, .int .i64 d.part, .bool d.hasPic, .bool d.wide, .int .i64 d.pic, .bool d.hasLevel, .int .i64 d.level, .bool d.hasTid, .bool d.hasKey, .int .i64 d.tid, .bool d.sync, .int .i64 d.key] 45)).alloc (.cells #[.bool k.alone, .bool k.start, .int .i64 k.part, .bool k.hasPic, .bool k.wide, .int .i64 k.pic, .bool k.hasLevel, .int .i64 k.level, .bool k.hasTid, .bool k.hasKey, .int .i64 k.tid, .bool k.sync, .int .i64 k.key] 45)
  replace hb := hb.ext hE
  by_cases hbig : 3000 < n
  · have d1 : (3000 : Int) < (n : Int) := by omega
    go_enter Try.func6, Try.ntmps6
    go_wp2_with fail
    refine (awake23 _).mono ?_
    rintro e w1 ⟨rfl, hE2⟩
    go_wp2_with fail
    go_ret
    exact ⟨rfl, hE.trans hE2⟩
  have d1 : ¬ (3000 : Int) < (n : Int) := by omega
  have hn : n ≤ 3000 := by omega
  clear hbig
  obtain ⟨x, hx⟩ : ∃ x, v8WL d = x := ⟨_, rfl⟩
  obtain ⟨Nx, hNx⟩ : ∃ N, x.length = N := ⟨_, rfl⟩
  obtain ⟨Ex, hEx⟩ : ∃ E, v8WE d = E := ⟨_, rfl⟩
  obtain ⟨y, hy⟩ : ∃ x, v8WL k = x := ⟨_, rfl⟩
  obtain ⟨Ny, hNy⟩ : ∃ N, y.length = N := ⟨_, rfl⟩
  obtain ⟨Ey, hEy⟩ : ∃ E, v8WE k = E := ⟨_, rfl⟩
  have S1 := hide (fun W => v8write_B d W x hx Nx hNx Ex hEx)
  have S2 := hide (fun W => v8write_B k W y hy Ny hNy Ey hEy)
  have HX := hide (And.intro hx (And.intro hNx hEx))
  have HY := hide (And.intro hy (And.intro hNy hEy))
  clear hx hNx hEx hy hNy hEy
  go_enter Try.func6, Try.ntmps6
  go_wp2_with fail
  refine (awake23 _).mono ?_
  rintro e w1 ⟨rfl, hE2⟩
  replace hE := hE.trans hE2
  replace hb := hb.ext hE2
  replace hbx := hbx.below hE2 hbx.lt
  replace hbk := hbk.below hE2 hbk.lt
  clear hE2
  obtain ⟨⟨u0, u1, u2, u3, u4, u5, u6, u7, u8, u9, u10, u11, u12⟩, _, _⟩ := hbx.thirteen
  go_wp2_with fail
  clear u0 u1 u2 u3 u4 u5 u6 u7 u8 u9 u10 u11 u12
  refine (S1.out _).mono ?_
  rintro e w2 ⟨Ax, cx, rfl, hX, hE2⟩
  replace hE := hE.trans hE2
  replace hb := hb.ext hE2
  replace hbx := hbx.below hE2 hbx.lt
  replace hbk := hbk.below hE2 hbk.lt
  clear hE2 S1
  obtain ⟨⟨u0, u1, u2, u3, u4, u5, u6, u7, u8, u9, u10, u11, u12⟩, _, _⟩ := hbk.thirteen
  go_wp2_with fail
  clear u0 u1 u2 u3 u4 u5 u6 u7 u8 u9 u10 u11 u12
  refine (S2.out _).mono ?_
  rintro e w3 ⟨Ay, cy, rfl, hY, hE2⟩
  replace hE := hE.trans hE2
  replace hb := hb.ext hE2
  replace hX := hX.ext hE2
  replace hbx := hbx.below hE2 hbx.lt
  replace hbk := hbk.below hE2 hbk.lt
  clear hE2 S2
  go_upto_if 37 with (fail)
  go_cut [] (fun wx => Ext w3 wx)
  case first =>
    clear hE
    obtain ⟨hx, hNx, hEx⟩ := HX.out
    obtain ⟨hy, hNy, hEy⟩ := HY.out
    clear HX HY
    unfold v8WL at hx hy
    unfold v8WE at hEx hEy
    cases hr : v8Right d
    · rw [hr] at hEx
      obtain rfl : (1 : Int) = Ex := hEx
      clear hx hNx hy hNy hEy hr
      go_wp2_with fail
      go_meet
      case rel => exact Ext.refl _
    · rw [hr] at hEx hx
      obtain rfl : (0 : Int) = Ex := hEx
      rw [if_pos rfl] at hx
      obtain ⟨q1, q2, q3⟩ := v8_back hr b
      have q4 := vrC_back hr
      have q5 := v8_len d
      have hinj := fun (h : v8Right k = true) => v8_inj hr h
      have hlen9 : Nx ≤ 9 := by
        rw [← hNx, ← hx]
        unfold v8Bytes v8Pic v8Lev v8Key
        split
        · simp
        · simp only [List.length_append, List.length_cons, List.length_nil]
          have : ∀ (c : Prop) [Decidable c] (a : List UInt8), (if c then a else []).length ≤ a.length := by intro c _ a; split <;> simp
          have h1 := this (d.hasLevel = true) [UInt8.ofNat d.level.toNat]
          have h2 := this (d.hasTid = true ∨ d.hasKey = true) [UInt8.ofNat (64 * d.tid.toNat + v8b d.sync 32 + d.key.toNat)]
          have h3 : (if d.wide = true then be 2 (32768 + d.pic.toNat) else if d.hasPic = true then [UInt8.ofNat d.pic.toNat] else []).length ≤ 2 := by
            split
            · rw [be_length]; omega
            · split <;> simp
          simp only [List.length_cons, List.length_nil] at h1 h2
          omega
      obtain ⟨m, hm⟩ : ∃ m, cut % Nx = m := ⟨_, rfl⟩
      rw [hx] at q1 q2 q3 q4 q5
      rw [hNx] at q3 q5
      have hmN : m < Nx := by rw [← hm]; exact Nat.mod_lt _ (by omega)
      obtain ⟨p1, p2, p3⟩ := v8_cut hr m (by rw [hx, hNx]; exact hmN)
      rw [hx] at p1 p2 p3
      have S7 := hide (fun W A c hX => v8read_any A (Nx + n) c (x ++ b) W hX (by omega) d q2 Nx q3 0 q1)
      have S8 := hide (fun W A c hX => v8read_any A m c (x.take m) W hX (by omega) v8Zero p2 0 p3 2 p1)
      have S9 := hide (fun W A c hX => v8canon_any A Nx c x W hX (by omega) true q4)
      have hcm : (cut : Int) % (Nx : Int) = (m : Int) := by omega
      have HCM := hide hcm
      have HI := hide (And.intro hx (And.intro hy (And.intro hEy hinj)))
      have hxt := hX.take (m := m) (by omega)
      have hN1 : ¬ Nx < 1 := by omega
      have hNd1 : decide ((Nx : Int) < 1) = false := decide_eq_false (by omega)
      have hNd2 : decide (Nx < 1) = false := decide_eq_false hN1
      have hNd3 : decide (Nx = 0) = false := decide_eq_false (by omega)
      have hXle := hX.le
      have hmc : (m : Int) ≤ (cx : Int) := by omega
      have hmc2 : m ≤ cx := by omega
      have hN1' : ¬ (Nx : Int) < 1 := by omega
      have hN0 : ¬ (Nx : Int) = 0 := by omega
      have hmle : (m : Int) ≤ (Nx : Int) := by omega
      have hm0 : (0 : Int) ≤ (m : Int) := by omega
      clear q1 q2 q3 q4 q5 p1 p2 p3 hr hinj hx hy hEy hNx hNy hm hcm
      go_wp2_with (first
        | (at_builtin; refine wpList_appB w3 _ _ rfl rfl ((Ext.refl _).alloc _) _ 0 0 _ rfl (own_empty w3) Ax Nx cx x rfl (hX.alloc _) (by omega) ?_; intro A4 c4 w4 O4 hE4; rw [Nat.zero_add, List.nil_append] at O4)
        | (at_builtin; refine wpList_appB w3 _ _ rfl rfl hE4 A4 Nx c4 x rfl O4 A n c b rfl (hb.ext hE4) (by omega) ?_; intro A5 c5 w5 O5 hE5))
      have hB5 := Bytes.own O5
      clear O4 O5 hE4
      replace hX := hX.ext hE5
      replace hxt := hxt.ext hE5
      replace hY := hY.ext hE5
      replace hbx := hbx.below hE5 hbx.lt
      replace hbk := hbk.below hE5 hbk.lt
      refine (S7.out _ _ _ hB5).mono ?_
      rintro e w6 ⟨rfl, hE6⟩
      clear hB5 S7
      have hE7 := hE5.trans hE6
      replace hX := hX.ext hE6
      replace hxt := hxt.ext hE6
      replace hY := hY.ext hE6
      replace hbx := hbx.below hE6 hbx.lt
      replace hbk := hbk.below hE6 hbk.lt
      have hlx := hbx.lt
      have hlk := hbk.lt
      have hs3 := hE7.size
      have hbz := Blk.new w6 45 #[.bool d.alone, .bool d.start, .int .i64 d.part, .bool d.hasPic, .bool d.wide, .int .i64 d.pic, .bool d.hasLevel, .int .i64 d.level, .bool d.hasTid, .bool d.hasKey, .int .i64 d.tid, .bool d.sync, .int .i64 d.key]
      replace hbx := hbx.alloc (.cells #[.bool d.alone, .bool d.start, .int .i64 d.part, .bool d.hasPic, .bool d.wide, .int .i64 d.pic, .bool d.hasLevel, .int .i64 d.level, .bool d.hasTid, .bool d.hasKey, .int .i64 d.tid, .bool d.sync, .int .i64 d.key] 45)
      replace hbk := hbk.alloc (.cells #[.bool d.alone, .bool d.start, .int .i64 d.part, .bool d.hasPic, .bool d.wide, .int .i64 d.pic, .bool d.hasLevel, .int .i64 d.level, .bool d.hasTid, .bool d.hasKey, .int .i64 d.tid, .bool d.sync, .int .i64 d.key] 45)
      replace hX := hX.alloc (.cells #[.bool d.alone, .bool d.start, .int .i64 d.part, .bool d.hasPic, .bool d.wide, .int .i64 d.pic, .bool d.hasLevel, .int .i64 d.level, .bool d.hasTid, .bool d.hasKey, .int .i64 d.tid, .bool d.sync, .int .i64 d.key] 45)
      replace hxt := hxt.alloc (.cells #[.bool d.alone, .bool d.start, .int .i64 d.part, .bool d.hasPic, .bool d.wide, .int .i64 d.pic, .bool d.hasLevel, .int .i64 d.level, .bool d.hasTid, .bool d.hasKey, .int .i64 d.tid, .bool d.sync, .int .i64 d.key] 45)
      replace hY := hY.alloc (.cells #[.bool d.alone, .bool d.start, .int .i64 d.part, .bool d.hasPic, .bool d.wide, .int .i64 d.pic, .bool d.hasLevel, .int .i64 d.level, .bool d.hasTid, .bool d.hasKey, .int .i64 d.tid, .bool d.sync, .int .i64 d.key] 45)
      replace hE7 := hE7.alloc (.cells #[.bool d.alone, .bool d.start, .int .i64 d.part, .bool d.hasPic, .bool d.wide, .int .i64 d.pic, .bool d.hasLevel, .int .i64 d.level, .bool d.hasTid, .bool d.hasKey, .int .i64 d.tid, .bool d.sync, .int .i64 d.key] 45)
      clear hE5 hE6
      obtain ⟨gz, hgz⟩ : ∃ g, w6.heap.size = g := ⟨_, rfl⟩
      go_upto_region 9 with fail
      rw [hgz] at hbz hs3; try rw [hgz]
      generalize hgw : w6.alloc (.cells #[.bool d.alone, .bool d.start, .int .i64 d.part, .bool d.hasPic, .bool d.wide, .int .i64 d.pic, .bool d.hasLevel, .int .i64 d.level, .bool d.hasTid, .bool d.hasKey, .int .i64 d.tid, .bool d.sync, .int .i64 d.key] 45) = w7 at *
      clear hgw hgz hlx hlk
      go_cut [84] (fun v wx => v = .bool false ∧ Ext w7 wx)
      case first => as_aux_lemma =>
        obtain ⟨hx, hy, hEy, hinj⟩ := HI.out
        have r1 := neq_ok d (v8eq_refl d)
        cases hr2 : v8Right k
        · rw [hr2] at hEy
          obtain rfl : (1 : Int) = Ey := hEy
          clear HI hx hy hinj hr2
          refine regE_start (by kernel_rfl) ?_
          have hR := (Ext.refl w7).drew
          generalize hgw : (w7).drew = wr0 at *
          clear hgw
          refine regE_take (i := 0) (v := ?_) rfl (by kernel_rfl) (by kernel_rfl) (by kernel_rfl) (fun _ _ _ h => h) (by rfl) ?_ ?_
          rotate_left
          · intro W hW; go_simp; try with_reducible rfl
          simp only [Act.put, List.setIfInBounds_toArray, List.set_cons_zero, List.set_cons_succ]
          refine regE_take (i := 1) (v := ?_) rfl (by kernel_rfl) (by kernel_rfl) (by kernel_rfl) (fun _ _ _ h => h) (by rfl) ?_ ?_
          rotate_left
          · intro W hW; go_simp; try with_reducible rfl
          simp only [Act.put, List.setIfInBounds_toArray, List.set_cons_zero, List.set_cons_succ]
          refine regE_take (i := 2) (v := ?_) rfl (by kernel_rfl) (by kernel_rfl) (by kernel_rfl) (fun _ _ _ h => h) (by rfl) ?_ ?_
          rotate_left
          · intro W hW; go_simp; try with_reducible rfl
          simp only [Act.put, List.setIfInBounds_toArray, List.set_cons_zero, List.set_cons_succ]
          refine regE_take (i := 3) (v := ?_) rfl (by kernel_rfl) (by kernel_rfl) (by kernel_rfl) (fun _ _ _ h => h) (by rfl) ?_ ?_
          rotate_left
          · intro W hW; go_simp; try with_reducible rfl
          simp only [Act.put, List.setIfInBounds_toArray, List.set_cons_zero, List.set_cons_succ]
          refine regE_take (i := 4) (v := ?_) rfl (by kernel_rfl) (by kernel_rfl) (by kernel_rfl) (fun _ _ _ h => h) (by rfl) ?_ ?_
          rotate_left
          · intro W hW; go_simp; try with_reducible rfl
          simp only [Act.put, List.setIfInBounds_toArray, List.set_cons_zero, List.set_cons_succ]
          refine regE_take (i := 5) (v := ?_) rfl (by kernel_rfl) (by kernel_rfl) (by kernel_rfl) (fun _ _ _ h => h) (by rfl) ?_ ?_
          rotate_left
          · intro W hW; go_simp; try with_reducible rfl
          simp only [Act.put, List.setIfInBounds_toArray, List.set_cons_zero, List.set_cons_succ]
          refine regE_take (i := 6) (v := ?_) rfl (by kernel_rfl) (by kernel_rfl) (by kernel_rfl) (fun _ _ _ h => h) (by rfl) ?_ ?_
          rotate_left
          · intro W hW; go_simp; try with_reducible rfl
          simp only [Act.put, List.setIfInBounds_toArray, List.set_cons_zero, List.set_cons_succ]
          refine regE_take (i := 7) (v := ?_) rfl (by kernel_rfl) (by kernel_rfl) (by kernel_rfl) (fun _ _ _ h => h) (by rfl) ?_ ?_
          rotate_left
          · intro W hW; go_simp; try with_reducible rfl
          simp only [Act.put, List.setIfInBounds_toArray, List.set_cons_zero, List.set_cons_succ]
          refine regE_take (i := 8) (v := ?_) rfl (by kernel_rfl) (by kernel_rfl) (by kernel_rfl) (fun _ _ _ h => h) (by rfl) ?_ ?_
          rotate_left
          · intro W hW; go_simp; try with_reducible rfl
          simp only [Act.put, List.setIfInBounds_toArray, List.set_cons_zero, List.set_cons_succ]
          refine regE_take (i := 9) (v := ?_) rfl (by kernel_rfl) (by kernel_rfl) (by kernel_rfl) (fun _ _ _ h => h) (by rfl) ?_ ?_
          rotate_left
          · intro W hW; go_simp; try with_reducible rfl
          simp only [Act.put, List.setIfInBounds_toArray, List.set_cons_zero, List.set_cons_succ]
          refine regE_take (i := 10) (v := ?_) rfl (by kernel_rfl) (by kernel_rfl) (by kernel_rfl) (fun _ _ _ h => h) (by rfl) ?_ ?_
          rotate_left
          · intro W hW; go_simp; try with_reducible rfl
          simp only [Act.put, List.setIfInBounds_toArray, List.set_cons_zero, List.set_cons_succ]
          refine regE_take (i := 11) (v := ?_) rfl (by kernel_rfl) (by kernel_rfl) (by kernel_rfl) (fun _ _ _ h => h) (by rfl) ?_ ?_
          rotate_left
          · intro W hW; go_simp; try with_reducible rfl
          simp only [Act.put, List.setIfInBounds_toArray, List.set_cons_zero, List.set_cons_succ]
          refine regE_take (i := 12) (v := ?_) rfl (by kernel_rfl) (by kernel_rfl) (by kernel_rfl) (fun _ _ _ h => h) (by rfl) ?_ ?_
          rotate_left
          · intro W hW; go_simp; try with_reducible rfl
          simp only [Act.put, List.setIfInBounds_toArray, List.set_cons_zero, List.set_cons_succ]
          refine regE_take (i := 13) (v := ?_) rfl (by kernel_rfl) (by kernel_rfl) (by kernel_rfl) (fun _ _ _ h => h) (by rfl) ?_ ?_
          rotate_left
          · intro W hW; obtain ⟨⟨u0, u1, u2, u3, u4, u5, u6, u7, u8, u9, u10, u11, u12⟩, _, _⟩ := (hbz.below hW hbz.lt).thirteen; go_simp; try with_reducible rfl
          simp only [Act.put, List.setIfInBounds_toArray, List.set_cons_zero, List.set_cons_succ]
          refine regE_take (i := 14) (v := ?_) rfl (by kernel_rfl) (by kernel_rfl) (by kernel_rfl) (fun _ _ _ h => h) (by rfl) ?_ ?_
          rotate_left
          · intro W hW; obtain ⟨⟨u0, u1, u2, u3, u4, u5, u6, u7, u8, u9, u10, u11, u12⟩, _, _⟩ := (hbx.below hW hbx.lt).thirteen; go_simp; try with_reducible rfl
          simp only [Act.put, List.setIfInBounds_toArray, List.set_cons_zero, List.set_cons_succ]
          refine regE_take (i := 15) (v := ?_) rfl (by kernel_rfl) (by kernel_rfl) (by kernel_rfl) (fun _ _ _ h => h) (by rfl) ?_ ?_
          rotate_left
          · intro W hW; go_simp; try with_reducible rfl
          simp only [Act.put, List.setIfInBounds_toArray, List.set_cons_zero, List.set_cons_succ]
          refine regE_take (i := 16) (v := ?_) rfl (by kernel_rfl) (by kernel_rfl) (by kernel_rfl) (fun _ _ _ h => h) (by rfl) ?_ ?_
          rotate_left
          · intro W hW; go_simp; try with_reducible rfl
          simp only [Act.put, List.setIfInBounds_toArray, List.set_cons_zero, List.set_cons_succ]
          refine regE_take (i := 17) (v := ?_) rfl (by kernel_rfl) (by kernel_rfl) (by kernel_rfl) (fun _ _ _ h => h) (by rfl) ?_ ?_
          rotate_left
          · intro W hW; go_simp; try with_reducible rfl
          simp only [Act.put, List.setIfInBounds_toArray, List.set_cons_zero, List.set_cons_succ]
          refine regE_take (i := 18) (v := ?_) rfl (by kernel_rfl) (by kernel_rfl) (by kernel_rfl) (fun _ _ _ h => h) (by rfl) ?_ ?_
          rotate_left
          · intro W hW; go_simp; try with_reducible rfl
          simp only [Act.put, List.setIfInBounds_toArray, List.set_cons_zero, List.set_cons_succ]
          refine regE_do (i := 19) rfl (by kernel_rfl) (fun K hK => ?_)
          rw [if_pos (by rfl)]
          go_simp
          refine (S9.out _ _ _ (hX.ext hR)).mono ?_
          rintro e wr1 ⟨rfl, hXX⟩
          refine hK.out _ _ (hR.trans hXX) ?_
          clear hK K
          replace hR := hR.trans hXX
          clear hXX
          try simp only [Act.put, List.setIfInBounds_toArray, List.set_cons_zero, List.set_cons_succ]
          refine regE_take (i := 20) (v := ?_) rfl (by kernel_rfl) (by kernel_rfl) (by kernel_rfl) (fun _ _ _ h => h) (by rfl) ?_ ?_
          rotate_left
          · intro W hW; go_simp; try with_reducible rfl
          simp only [Act.put, List.setIfInBounds_toArray, List.set_cons_zero, List.set_cons_succ]
          refine regE_take (i := 21) (v := ?_) rfl (by kernel_rfl) (by kernel_rfl) (by kernel_rfl) (fun _ _ _ h => h) (by rfl) ?_ ?_
          rotate_left
          · intro W hW; go_simp; try with_reducible rfl
          simp only [Act.put, List.setIfInBounds_toArray, List.set_cons_zero, List.set_cons_succ]
          refine regE_take (i := 22) (v := ?_) rfl (by kernel_rfl) (by kernel_rfl) (by kernel_rfl) (fun _ _ _ h => h) (by rfl) ?_ ?_
          rotate_left
          · intro W hW; go_simp; try with_reducible rfl
          simp only [Act.put, List.setIfInBounds_toArray, List.set_cons_zero, List.set_cons_succ]
          refine regE_take (i := 23) (v := ?_) rfl (by kernel_rfl) (by kernel_rfl) (by kernel_rfl) (fun _ _ _ h => h) (by rfl) ?_ ?_
          rotate_left
          · intro W hW; go_simp; try with_reducible rfl
          simp only [Act.put, List.setIfInBounds_toArray, List.set_cons_zero, List.set_cons_succ]
          refine regE_take (i := 24) (v := ?_) rfl (by kernel_rfl) (by kernel_rfl) (by kernel_rfl) (fun _ _ _ h => h) (by rfl) ?_ ?_
          rotate_left
          · intro W hW; go_simp; try with_reducible rfl
          simp only [Act.put, List.setIfInBounds_toArray, List.set_cons_zero, List.set_cons_succ]
          refine regE_take (i := 25) (v := ?_) rfl (by kernel_rfl) (by kernel_rfl) (by kernel_rfl) (fun _ _ _ h => h) (by rfl) ?_ ?_
          rotate_left
          · intro W hW; go_simp; try with_reducible rfl
          simp only [Act.put, List.setIfInBounds_toArray, List.set_cons_zero, List.set_cons_succ]
          refine regE_skip (i := 26) rfl (by kernel_rfl) (by kernel_rfl) (by kernel_rfl) (fun _ _ _ h => h) (by rfl) ?_
          simp only [Act.put, List.setIfInBounds_toArray, List.set_cons_zero, List.set_cons_succ]
          refine regE_skip (i := 27) rfl (by kernel_rfl) (by kernel_rfl) (by kernel_rfl) (fun _ _ _ h => h) (by rfl) ?_
          simp only [Act.put, List.setIfInBounds_toArray, List.set_cons_zero, List.set_cons_succ]
          refine regE_skip (i := 28) rfl (by kernel_rfl) (by kernel_rfl) (by kernel_rfl) (fun _ _ _ h => h) (by rfl) ?_
          simp only [Act.put, List.setIfInBounds_toArray, List.set_cons_zero, List.set_cons_succ]
          refine regE_skip (i := 29) rfl (by kernel_rfl) (by kernel_rfl) (by kernel_rfl) (fun _ _ _ h => h) (by rfl) ?_
          simp only [Act.put, List.setIfInBounds_toArray, List.set_cons_zero, List.set_cons_succ]
          refine regE_skip (i := 30) rfl (by kernel_rfl) (by kernel_rfl) (by kernel_rfl) (fun _ _ _ h => h) (by rfl) ?_
          simp only [Act.put, List.setIfInBounds_toArray, List.set_cons_zero, List.set_cons_succ]
          refine regE_skip (i := 31) rfl (by kernel_rfl) (by kernel_rfl) (by kernel_rfl) (fun _ _ _ h => h) (by rfl) ?_
          simp only [Act.put, List.setIfInBounds_toArray, List.set_cons_zero, List.set_cons_succ]
          refine regE_skip (i := 32) rfl (by kernel_rfl) (by kernel_rfl) (by kernel_rfl) (fun _ _ _ h => h) (by rfl) ?_
          simp only [Act.put, List.setIfInBounds_toArray, List.set_cons_zero, List.set_cons_succ]
          refine regE_skip (i := 33) rfl (by kernel_rfl) (by kernel_rfl) (by kernel_rfl) (fun _ _ _ h => h) (by rfl) ?_
          simp only [Act.put, List.setIfInBounds_toArray, List.set_cons_zero, List.set_cons_succ]
          refine regE_skip (i := 34) rfl (by kernel_rfl) (by kernel_rfl) (by kernel_rfl) (fun _ _ _ h => h) (by rfl) ?_
          simp only [Act.put, List.setIfInBounds_toArray, List.set_cons_zero, List.set_cons_succ]
          refine regE_take (i := 35) (v := ?_) rfl (by kernel_rfl) (by kernel_rfl) (by kernel_rfl) (fun _ _ _ h => h) (by rfl) ?_ ?_
          rotate_left
          · intro W hW; go_simp; try with_reducible rfl
          simp only [Act.put, List.setIfInBounds_toArray, List.set_cons_zero, List.set_cons_succ]
          refine regE_take (i := 36) (v := ?_) rfl (by kernel_rfl) (by kernel_rfl) (by kernel_rfl) (fun _ _ _ h => h) (by rfl) ?_ ?_
          rotate_left
          · intro W hW; go_simp; try with_reducible rfl
          simp only [Act.put, List.setIfInBounds_toArray, List.set_cons_zero, List.set_cons_succ]
          refine regE_done (by kernel_rfl) ?_
          go_wp2_with fail
          go_meet
          case rel => exact ⟨rfl, hR⟩
        · rw [hr2] at hEy hy
          rw [if_pos rfl] at hy
          obtain rfl : (0 : Int) = Ey := hEy
          have hxy := hinj hr2
          rw [hx, hy] at hxy
          obtain ⟨s, hs⟩ : ∃ s, v8eq d k = s := ⟨_, rfl⟩
          have r2 := eql_ok k hs
          have hxy2 : (x == y) = s := by
            rw [← hs]
            by_cases q : x = y
            · rw [beq_iff_eq.2 q, ((v8eq_iff d k).2 (hxy.1 q))]
            · rw [beq_eq_false_iff_ne.2 q]
              exact (Bool.eq_false_iff.2 fun z => q (hxy.2 ((v8eq_iff d k).1 z))).symm
          have hrr : (s != s) = false := by cases s <;> rfl
          clear HI hx hy hinj hr2 hxy hs
          refine regE_start (by kernel_rfl) ?_
          have hR := (Ext.refl w7).drew
          generalize hgw : (w7).drew = wr0 at *
          clear hgw
          refine regE_take (i := 0) (v := ?_) rfl (by kernel_rfl) (by kernel_rfl) (by kernel_rfl) (fun _ _ _ h => h) (by rfl) ?_ ?_
          rotate_left
          · intro W hW; go_simp; try with_reducible rfl
          simp only [Act.put, List.setIfInBounds_toArray, List.set_cons_zero, List.set_cons_succ]
          refine regE_take (i := 1) (v := ?_) rfl (by kernel_rfl) (by kernel_rfl) (by kernel_rfl) (fun _ _ _ h => h) (by rfl) ?_ ?_
          rotate_left
          · intro W hW; go_simp; try with_reducible rfl
          simp only [Act.put, List.setIfInBounds_toArray, List.set_cons_zero, List.set_cons_succ]
          refine regE_take (i := 2) (v := ?_) rfl (by kernel_rfl) (by kernel_rfl) (by kernel_rfl) (fun _ _ _ h => h) (by rfl) ?_ ?_
          rotate_left
          · intro W hW; go_simp; try with_reducible rfl
          simp only [Act.put, List.setIfInBounds_toArray, List.set_cons_zero, List.set_cons_succ]
          refine regE_take (i := 3) (v := ?_) rfl (by kernel_rfl) (by kernel_rfl) (by kernel_rfl) (fun _ _ _ h => h) (by rfl) ?_ ?_
          rotate_left
          · intro W hW; go_simp; try with_reducible rfl
          simp only [Act.put, List.setIfInBounds_toArray, List.set_cons_zero, List.set_cons_succ]
          refine regE_take (i := 4) (v := ?_) rfl (by kernel_rfl) (by kernel_rfl) (by kernel_rfl) (fun _ _ _ h => h) (by rfl) ?_ ?_
          rotate_left
          · intro W hW; go_simp; try with_reducible rfl
          simp only [Act.put, List.setIfInBounds_toArray, List.set_cons_zero, List.set_cons_succ]
          refine regE_take (i := 5) (v := ?_) rfl (by kernel_rfl) (by kernel_rfl) (by kernel_rfl) (fun _ _ _ h => h) (by rfl) ?_ ?_
          rotate_left
          · intro W hW; go_simp; try with_reducible rfl
          simp only [Act.put, List.setIfInBounds_toArray, List.set_cons_zero, List.set_cons_succ]
          refine regE_take (i := 6) (v := ?_) rfl (by kernel_rfl) (by kernel_rfl) (by kernel_rfl) (fun _ _ _ h => h) (by rfl) ?_ ?_
          rotate_left
          · intro W hW; go_simp; try with_reducible rfl
          simp only [Act.put, List.setIfInBounds_toArray, List.set_cons_zero, List.set_cons_succ]
          refine regE_take (i := 7) (v := ?_) rfl (by kernel_rfl) (by kernel_rfl) (by kernel_rfl) (fun _ _ _ h => h) (by rfl) ?_ ?_
          rotate_left
          · intro W hW; go_simp; try with_reducible rfl
          simp only [Act.put, List.setIfInBounds_toArray, List.set_cons_zero, List.set_cons_succ]
          refine regE_take (i := 8) (v := ?_) rfl (by kernel_rfl) (by kernel_rfl) (by kernel_rfl) (fun _ _ _ h => h) (by rfl) ?_ ?_
          rotate_left
          · intro W hW; go_simp; try with_reducible rfl
          simp only [Act.put, List.setIfInBounds_toArray, List.set_cons_zero, List.set_cons_succ]
          refine regE_take (i := 9) (v := ?_) rfl (by kernel_rfl) (by kernel_rfl) (by kernel_rfl) (fun _ _ _ h => h) (by rfl) ?_ ?_
          rotate_left
          · intro W hW; go_simp; try with_reducible rfl
          simp only [Act.put, List.setIfInBounds_toArray, List.set_cons_zero, List.set_cons_succ]
          refine regE_take (i := 10) (v := ?_) rfl (by kernel_rfl) (by kernel_rfl) (by kernel_rfl) (fun _ _ _ h => h) (by rfl) ?_ ?_
          rotate_left
          · intro W hW; go_simp; try with_reducible rfl
          simp only [Act.put, List.setIfInBounds_toArray, List.set_cons_zero, List.set_cons_succ]
          refine regE_take (i := 11) (v := ?_) rfl (by kernel_rfl) (by kernel_rfl) (by kernel_rfl) (fun _ _ _ h => h) (by rfl) ?_ ?_
          rotate_left
          · intro W hW; go_simp; try with_reducible rfl
          simp only [Act.put, List.setIfInBounds_toArray, List.set_cons_zero, List.set_cons_succ]
          refine regE_take (i := 12) (v := ?_) rfl (by kernel_rfl) (by kernel_rfl) (by kernel_rfl) (fun _ _ _ h => h) (by rfl) ?_ ?_
          rotate_left
          · intro W hW; go_simp; try with_reducible rfl
          simp only [Act.put, List.setIfInBounds_toArray, List.set_cons_zero, List.set_cons_succ]
          refine regE_take (i := 13) (v := ?_) rfl (by kernel_rfl) (by kernel_rfl) (by kernel_rfl) (fun _ _ _ h => h) (by rfl) ?_ ?_
          rotate_left
          · intro W hW; obtain ⟨⟨u0, u1, u2, u3, u4, u5, u6, u7, u8, u9, u10, u11, u12⟩, _, _⟩ := (hbz.below hW hbz.lt).thirteen; go_simp; try with_reducible rfl
          simp only [Act.put, List.setIfInBounds_toArray, List.set_cons_zero, List.set_cons_succ]
          refine regE_take (i := 14) (v := ?_) rfl (by kernel_rfl) (by kernel_rfl) (by kernel_rfl) (fun _ _ _ h => h) (by rfl) ?_ ?_
          rotate_left
          · intro W hW; obtain ⟨⟨u0, u1, u2, u3, u4, u5, u6, u7, u8, u9, u10, u11, u12⟩, _, _⟩ := (hbx.below hW hbx.lt).thirteen; go_simp; try with_reducible rfl
          simp only [Act.put, List.setIfInBounds_toArray, List.set_cons_zero, List.set_cons_succ]
          refine regE_take (i := 15) (v := ?_) rfl (by kernel_rfl) (by kernel_rfl) (by kernel_rfl) (fun _ _ _ h => h) (by rfl) ?_ ?_
          rotate_left
          · intro W hW; go_simp; try with_reducible rfl
          simp only [Act.put, List.setIfInBounds_toArray, List.set_cons_zero, List.set_cons_succ]
          refine regE_take (i := 16) (v := ?_) rfl (by kernel_rfl) (by kernel_rfl) (by kernel_rfl) (fun _ _ _ h => h) (by rfl) ?_ ?_
          rotate_left
          · intro W hW; go_simp; try with_reducible rfl
          simp only [Act.put, List.setIfInBounds_toArray, List.set_cons_zero, List.set_cons_succ]
          refine regE_take (i := 17) (v := ?_) rfl (by kernel_rfl) (by kernel_rfl) (by kernel_rfl) (fun _ _ _ h => h) (by rfl) ?_ ?_
          rotate_left
          · intro W hW; go_simp; try with_reducible rfl
          simp only [Act.put, List.setIfInBounds_toArray, List.set_cons_zero, List.set_cons_succ]
          refine regE_take (i := 18) (v := ?_) rfl (by kernel_rfl) (by kernel_rfl) (by kernel_rfl) (fun _ _ _ h => h) (by rfl) ?_ ?_
          rotate_left
          · intro W hW; go_simp; try with_reducible rfl
          simp only [Act.put, List.setIfInBounds_toArray, List.set_cons_zero, List.set_cons_succ]
          refine regE_do (i := 19) rfl (by kernel_rfl) (fun K hK => ?_)
          rw [if_pos (by rfl)]
          go_simp
          refine (S9.out _ _ _ (hX.ext hR)).mono ?_
          rintro e wr1 ⟨rfl, hXX⟩
          refine hK.out _ _ (hR.trans hXX) ?_
          clear hK K
          replace hR := hR.trans hXX
          clear hXX
          try simp only [Act.put, List.setIfInBounds_toArray, List.set_cons_zero, List.set_cons_succ]
          refine regE_take (i := 20) (v := ?_) rfl (by kernel_rfl) (by kernel_rfl) (by kernel_rfl) (fun _ _ _ h => h) (by rfl) ?_ ?_
          rotate_left
          · intro W hW; go_simp; try with_reducible rfl
          simp only [Act.put, List.setIfInBounds_toArray, List.set_cons_zero, List.set_cons_succ]
          refine regE_take (i := 21) (v := ?_) rfl (by kernel_rfl) (by kernel_rfl) (by kernel_rfl) (fun _ _ _ h => h) (by rfl) ?_ ?_
          rotate_left
          · intro W hW; go_simp; try with_reducible rfl
          simp only [Act.put, List.setIfInBounds_toArray, List.set_cons_zero, List.set_cons_succ]
          refine regE_take (i := 22) (v := ?_) rfl (by kernel_rfl) (by kernel_rfl) (by kernel_rfl) (fun _ _ _ h => h) (by rfl) ?_ ?_
          rotate_left
          · intro W hW; go_simp; try with_reducible rfl
          simp only [Act.put, List.setIfInBounds_toArray, List.set_cons_zero, List.set_cons_succ]
          refine regE_take (i := 23) (v := ?_) rfl (by kernel_rfl) (by kernel_rfl) (by kernel_rfl) (fun _ _ _ h => h) (by rfl) ?_ ?_
          rotate_left
          · intro W hW; go_simp; try with_reducible rfl
          simp only [Act.put, List.setIfInBounds_toArray, List.set_cons_zero, List.set_cons_succ]
          refine regE_take (i := 24) (v := ?_) rfl (by kernel_rfl) (by kernel_rfl) (by kernel_rfl) (fun _ _ _ h => h) (by rfl) ?_ ?_
          rotate_left
          · intro W hW; go_simp; try with_reducible rfl
          simp only [Act.put, List.setIfInBounds_toArray, List.set_cons_zero, List.set_cons_succ]
          refine regE_take (i := 25) (v := ?_) rfl (by kernel_rfl) (by kernel_rfl) (by kernel_rfl) (fun _ _ _ h => h) (by rfl) ?_ ?_
          rotate_left
          · intro W hW; go_simp; try with_reducible rfl
          simp only [Act.put, List.setIfInBounds_toArray, List.set_cons_zero, List.set_cons_succ]
          refine regE_take (i := 26) (v := ?_) rfl (by kernel_rfl) (by kernel_rfl) (by kernel_rfl) (fun _ _ _ h => h) (by rfl) ?_ ?_
          rotate_left
          · intro W hW; go_simp; try with_reducible rfl
          simp only [Act.put, List.setIfInBounds_toArray, List.set_cons_zero, List.set_cons_succ]
          refine regE_take (i := 27) (v := ?_) rfl (by kernel_rfl) (by kernel_rfl) (by kernel_rfl) (fun _ _ _ h => h) (by rfl) ?_ ?_
          rotate_left
          · intro W hW; have s1 := run_str (hX.ext hW); go_simp; try with_reducible rfl
          simp only [Act.put, List.setIfInBounds_toArray, List.set_cons_zero, List.set_cons_succ]
          refine regE_take (i := 28) (v := ?_) rfl (by kernel_rfl) (by kernel_rfl) (by kernel_rfl) (fun _ _ _ h => h) (by rfl) ?_ ?_
          rotate_left
          · intro W hW; go_simp; try with_reducible rfl
          simp only [Act.put, List.setIfInBounds_toArray, List.set_cons_zero, List.set_cons_succ]
          refine regE_take (i := 29) (v := ?_) rfl (by kernel_rfl) (by kernel_rfl) (by kernel_rfl) (fun _ _ _ h => h) (by rfl) ?_ ?_
          rotate_left
          · intro W hW; have s1 := run_str (hY.ext hW); go_simp; try with_reducible rfl
          simp only [Act.put, List.setIfInBounds_toArray, List.set_cons_zero, List.set_cons_succ]
          refine regE_take (i := 30) (v := ?_) rfl (by kernel_rfl) (by kernel_rfl) (by kernel_rfl) (fun _ _ _ h => h) (by rfl) ?_ ?_
          rotate_left
          · intro W hW; go_simp; try with_reducible rfl
          simp only [Act.put, List.setIfInBounds_toArray, List.set_cons_zero, List.set_cons_succ]
          refine regE_take (i := 31) (v := ?_) rfl (by kernel_rfl) (by kernel_rfl) (by kernel_rfl) (fun _ _ _ h => h) (by rfl) ?_ ?_
          rotate_left
          · intro W hW; obtain ⟨⟨u0, u1, u2, u3, u4, u5, u6, u7, u8, u9, u10, u11, u12⟩, _, _⟩ := (hbx.below hW hbx.lt).thirteen; go_simp; try with_reducible rfl
          simp only [Act.put, List.setIfInBounds_toArray, List.set_cons_zero, List.set_cons_succ]
          refine regE_take (i := 32) (v := ?_) rfl (by kernel_rfl) (by kernel_rfl) (by kernel_rfl) (fun _ _ _ h => h) (by rfl) ?_ ?_
          rotate_left
          · intro W hW; obtain ⟨⟨u0, u1, u2, u3, u4, u5, u6, u7, u8, u9, u10, u11, u12⟩, _, _⟩ := (hbk.below hW hbk.lt).thirteen; go_simp; try with_reducible rfl
          simp only [Act.put, List.setIfInBounds_toArray, List.set_cons_zero, List.set_cons_succ]
          refine regE_take (i := 33) (v := ?_) rfl (by kernel_rfl) (by kernel_rfl) (by kernel_rfl) (fun _ _ _ h => h) (by rfl) ?_ ?_
          rotate_left
          · intro W hW; go_simp; try with_reducible rfl
          simp only [Act.put, List.setIfInBounds_toArray, List.set_cons_zero, List.set_cons_succ]
          refine regE_take (i := 34) (v := ?_) rfl (by kernel_rfl) (by kernel_rfl) (by kernel_rfl) (fun _ _ _ h => h) (by rfl) ?_ ?_
          rotate_left
          · intro W hW; go_simp; try with_reducible rfl
          simp only [Act.put, List.setIfInBounds_toArray, List.set_cons_zero, List.set_cons_succ]
          refine regE_take (i := 35) (v := ?_) rfl (by kernel_rfl) (by kernel_rfl) (by kernel_rfl) (fun _ _ _ h => h) (by rfl) ?_ ?_
          rotate_left
          · intro W hW; go_simp; try with_reducible rfl
          simp only [Act.put, List.setIfInBounds_toArray, List.set_cons_zero, List.set_cons_succ]
          refine regE_take (i := 36) (v := ?_) rfl (by kernel_rfl) (by kernel_rfl) (by kernel_rfl) (fun _ _ _ h => h) (by rfl) ?_ ?_
          rotate_left
          · intro W hW; go_simp; try with_reducible rfl
          simp only [Act.put, List.setIfInBounds_toArray, List.set_cons_zero, List.set_cons_succ]
          refine regE_done (by kernel_rfl) ?_
          go_wp2_with fail
          go_meet
          case rel => exact ⟨rfl, hR⟩
      case rest =>
        obtain ⟨rfl, hE8⟩ := hcut
        replace hxt := hxt.ext hE8
        replace hbz := hbz.below hE8 hbz.lt
        replace hE7 := hE7.trans hE8
        clear hE8 HI S9 hX hY hbx hbk
        have hcm := HCM.out
        go_wp2_with fail
        refine (S8.out _ _ _ hxt).mono ?_
        rintro e w8 ⟨rfl, hE8⟩
        replace hbz := hbz.below hE8 hbz.lt
        have hE9 := hE7.trans hE8
        have hE10 := Ext.put13 (v0 := .bool false) (v1 := .bool false) (v2 := .int .i64 0) (v3 := .bool false) (v4 := .bool false) (v5 := .int .i64 0) (v6 := .bool false) (v7 := .int .i64 0) (v8 := .bool false) (v9 := .bool false) (v10 := .int .i64 0) (v11 := .bool false) (v12 := .int .i64 0) hE9 hs3
        have HE10 := hide hE10
        have r1 := neq_zeroV
        clear hE7 hE8 hE9 hE10 hxt S8 HCM
        obtain ⟨⟨u0, u1, u2, u3, u4, u5, u6, u7, u8, u9, u10, u11, u12⟩, uf, _⟩ := hbz.thirteen
        go_wp2_with fail
        go_meet
        case rel => exact HE10.out
  case rest =>
    replace hE := hE.trans hcut
    replace hb := hb.ext hcut
    clear hcut HX HY hX hY hbx hbk
    have hbl := hb.len
    obtain ⟨E, hEe⟩ : ∃ E, vrE b = E := ⟨_, rfl⟩
    by_cases hE0 : E = 0
    · subst hE0
      obtain ⟨z1, z2, z3⟩ := v8_read hEe
      obtain ⟨z, hz⟩ : ∃ z, vrD b = z := ⟨_, rfl⟩
      obtain ⟨N, hN⟩ : ∃ z, vrN b = z := ⟨_, rfl⟩
      rw [hz] at z1
      rw [hN] at z2 z3
      rw [hbl] at z3
      obtain ⟨yb, hyb⟩ : ∃ Z, v8Bytes z = Z := ⟨_, rfl⟩
      obtain ⟨M, hM⟩ : ∃ M, yb.length = M := ⟨_, rfl⟩
      obtain ⟨s, hs⟩ : ∃ s, vrC b = s := ⟨_, rfl⟩
      have S5 := hide (fun W hb => v8read_any A n c b W hb (by omega) z hz N hN 0 hEe)
      have S9 := hide (fun W => v8write_B z W yb (by unfold v8WL; rw [if_pos z1]; exact hyb) M hM 0 (by unfold v8WE; rw [if_pos z1]))
      have S10 := hide (fun W => v8right_any z W true z1)
      have S11 := hide (fun W hb => v8canon_any A n c b W hb (by omega) s hs)
      have hyy : (yb == b.take N) = s := by
        rw [← hs]
        unfold vrC
        rw [hz, hN, hyb]
        by_cases q : yb = b.take N
        · rw [beq_iff_eq.2 q, decide_eq_true ⟨hEe, q⟩]
        · rw [beq_eq_false_iff_ne.2 q, decide_eq_false fun h => q h.2]
      have hss : (s == s) = true := by cases s <;> rfl
      have t1 : (1 : Int) ≤ (N : Int) := by omega
      have t2 : (N : Int) ≤ (n : Int) := by omega
      have t3 : decide ((1 : Int) ≤ (N : Int)) = true := decide_eq_true t1
      have t4 : decide ((N : Int) ≤ (n : Int)) = true := decide_eq_true t2
      have t5 : decide (1 ≤ N) = true := decide_eq_true z2
      have t6 : decide (N ≤ n) = true := decide_eq_true z3
      have t7 : decide (0 < N) = true := decide_eq_true z2
      have hcle := hb.le
      have hreach := hb.reach
      have t8 : (N : Int) ≤ (c : Int) := by omega
      have t9 : N ≤ c := by omega
      obtain ⟨gb, ob, rfl, _⟩ := hb.form (by omega)
      clear z1 hz hN hyb hM hs hEe hbl
      go_wp2_with fail
      refine (S5.out _ hb).mono ?_
      rintro e wa ⟨rfl, hE2⟩
      have hby := Blk.new wa 45 #[.bool z.alone, .bool z.start, .int .i64 z.part, .bool z.hasPic, .bool z.wide, .int .i64 z.pic, .bool z.hasLevel, .int .i64 z.level, .bool z.hasTid, .bool z.hasKey, .int .i64 z.tid, .bool z.sync, .int .i64 z.key]
      have hE3 := hE2.alloc (.cells #[.bool z.alone, .bool z.start, .int .i64 z.part, .bool z.hasPic, .bool z.wide, .int .i64 z.pic, .bool z.hasLevel, .int .i64 z.level, .bool z.hasTid, .bool z.hasKey, .int .i64 z.tid, .bool z.sync, .int .i64 z.key] 45)
      replace hE := hE.trans hE3
      replace hb := hb.ext hE3
      clear hE3 S5 hE2
      obtain ⟨⟨u0, u1, u2, u3, u4, u5, u6, u7, u8, u9, u10, u11, u12⟩, _, _⟩ := hby.thirteen
      go_wp2_with fail
      clear u0 u1 u2 u3 u4 u5 u6 u7 u8 u9 u10 u11 u12
      refine (S9.out _).mono ?_
      rintro e wb ⟨Aw, cw, rfl, hW2, hE2⟩
      replace hE := hE.trans hE2
      replace hb := hb.ext hE2
      replace hby := hby.below hE2 hby.lt
      clear hE2 S9
      have hP := hb.part (lo := 0) (hi := N) (m := N) (c' := c) (by omega) (by omega) rfl (by omega) hreach
      rw [List.drop_zero, Nat.add_zero] at hP
      go_upto_region 18 with fail
      refine regE_start (by kernel_rfl) ?_
      have hR := (Ext.refl wb).drew
      generalize hgw : (wb).drew = wr0 at *
      clear hgw
      refine regE_take (i := 0) (v := ?_) rfl (by kernel_rfl) (by kernel_rfl) (by kernel_rfl) (fun _ _ _ h => h) (by rfl) ?_ ?_
      rotate_left
      · intro W hW; go_simp; try with_reducible rfl
      simp only [Act.put, List.setIfInBounds_toArray, List.set_cons_zero, List.set_cons_succ]
      refine regE_take (i := 1) (v := ?_) rfl (by kernel_rfl) (by kernel_rfl) (by kernel_rfl) (fun _ _ _ h => h) (by rfl) ?_ ?_
      rotate_left
      · intro W hW; go_simp; try with_reducible rfl
      simp only [Act.put, List.setIfInBounds_toArray, List.set_cons_zero, List.set_cons_succ]
      refine regE_take (i := 2) (v := ?_) rfl (by kernel_rfl) (by kernel_rfl) (by kernel_rfl) (fun _ _ _ h => h) (by rfl) ?_ ?_
      rotate_left
      · intro W hW; go_simp; try with_reducible rfl
      simp only [Act.put, List.setIfInBounds_toArray, List.set_cons_zero, List.set_cons_succ]
      refine regE_take (i := 3) (v := ?_) rfl (by kernel_rfl) (by kernel_rfl) (by kernel_rfl) (fun _ _ _ h => h) (by rfl) ?_ ?_
      rotate_left
      · intro W hW; obtain ⟨⟨u0, u1, u2, u3, u4, u5, u6, u7, u8, u9, u10, u11, u12⟩, _, _⟩ := (hby.below hW hby.lt).thirteen; go_simp; try with_reducible rfl
      simp only [Act.put, List.setIfInBounds_toArray, List.set_cons_zero, List.set_cons_succ]
      refine regE_do (i := 4) rfl (by kernel_rfl) (fun K hK => ?_)
      rw [if_pos (by rfl)]
      go_simp
      refine (S10.out _).mono ?_
      rintro e wr1 ⟨rfl, hXX⟩
      refine hK.out _ _ (hR.trans hXX) ?_
      clear hK K
      replace hR := hR.trans hXX
      clear hXX
      try simp only [Act.put, List.setIfInBounds_toArray, List.set_cons_zero, List.set_cons_succ]
      refine regE_take (i := 5) (v := ?_) rfl (by kernel_rfl) (by kernel_rfl) (by kernel_rfl) (fun _ _ _ h => h) (by rfl) ?_ ?_
      rotate_left
      · intro W hW; go_simp; try with_reducible rfl
      simp only [Act.put, List.setIfInBounds_toArray, List.set_cons_zero, List.set_cons_succ]
      refine regE_take (i := 6) (v := ?_) rfl (by kernel_rfl) (by kernel_rfl) (by kernel_rfl) (fun _ _ _ h => h) (by rfl) ?_ ?_
      rotate_left
      · intro W hW; go_simp; try with_reducible rfl
      simp only [Act.put, List.setIfInBounds_toArray, List.set_cons_zero, List.set_cons_succ]
      refine regE_take (i := 7) (v := ?_) rfl (by kernel_rfl) (by kernel_rfl) (by kernel_rfl) (fun _ _ _ h => h) (by rfl) ?_ ?_
      rotate_left
      · intro W hW; go_simp; try with_reducible rfl
      simp only [Act.put, List.setIfInBounds_toArray, List.set_cons_zero, List.set_cons_succ]
      refine regE_take (i := 8) (v := ?_) rfl (by kernel_rfl) (by kernel_rfl) (by kernel_rfl) (fun _ _ _ h => h) (by rfl) ?_ ?_
      rotate_left
      · intro W hW; go_simp; try with_reducible rfl
      simp only [Act.put, List.setIfInBounds_toArray, List.set_cons_zero, List.set_cons_succ]
      refine regE_take (i := 9) (v := ?_) rfl (by kernel_rfl) (by kernel_rfl) (by kernel_rfl) (fun _ _ _ h => h) (by rfl) ?_ ?_
      rotate_left
      · intro W hW; go_simp; try with_reducible rfl
      simp only [Act.put, List.setIfInBounds_toArray, List.set_cons_zero, List.set_cons_succ]
      refine regE_take (i := 10) (v := ?_) rfl (by kernel_rfl) (by kernel_rfl) (by kernel_rfl) (fun _ _ _ h => h) (by rfl) ?_ ?_
      rotate_left
      · intro W hW; go_simp; try with_reducible rfl
      simp only [Act.put, List.setIfInBounds_toArray, List.set_cons_zero, List.set_cons_succ]
      refine regE_take (i := 11) (v := ?_) rfl (by kernel_rfl) (by kernel_rfl) (by kernel_rfl) (fun _ _ _ h => h) (by rfl) ?_ ?_
      rotate_left
      · intro W hW; go_simp; try with_reducible rfl
      simp only [Act.put, List.setIfInBounds_toArray, List.set_cons_zero, List.set_cons_succ]
      refine regE_take (i := 12) (v := ?_) rfl (by kernel_rfl) (by kernel_rfl) (by kernel_rfl) (fun _ _ _ h => h) (by rfl) ?_ ?_
      rotate_left
      · intro W hW; go_simp; try with_reducible rfl
      simp only [Act.put, List.setIfInBounds_toArray, List.set_cons_zero, List.set_cons_succ]
      refine regE_take (i := 13) (v := ?_) rfl (by kernel_rfl) (by kernel_rfl) (by kernel_rfl) (fun _ _ _ h => h) (by rfl) ?_ ?_
      rotate_left
      · intro W hW; go_simp; try with_reducible rfl
      simp only [Act.put, List.setIfInBounds_toArray, List.set_cons_zero, List.set_cons_succ]
      refine regE_take (i := 14) (v := ?_) rfl (by kernel_rfl) (by kernel_rfl) (by kernel_rfl) (fun _ _ _ h => h) (by rfl) ?_ ?_
      rotate_left
      · intro W hW; go_simp; try with_reducible rfl
      simp only [Act.put, List.setIfInBounds_toArray, List.set_cons_zero, List.set_cons_succ]
      refine regE_take (i := 15) (v := ?_) rfl (by kernel_rfl) (by kernel_rfl) (by kernel_rfl) (fun _ _ _ h => h) (by rfl) ?_ ?_
      rotate_left
      · intro W hW; go_simp; try with_reducible rfl
      simp only [Act.put, List.setIfInBounds_toArray, List.set_cons_zero, List.set_cons_succ]
      refine regE_take (i := 16) (v := ?_) rfl (by kernel_rfl) (by kernel_rfl) (by kernel_rfl) (fun _ _ _ h => h) (by rfl) ?_ ?_
      rotate_left
      · intro W hW; go_simp; try with_reducible rfl
      simp only [Act.put, List.setIfInBounds_toArray, List.set_cons_zero, List.set_cons_succ]
      refine regE_take (i := 17) (v := ?_) rfl (by kernel_rfl) (by kernel_rfl) (by kernel_rfl) (fun _ _ _ h => h) (by rfl) ?_ ?_
      rotate_left
      · intro W hW; go_simp; try with_reducible rfl
      simp only [Act.put, List.setIfInBounds_toArray, List.set_cons_zero, List.set_cons_succ]
      refine regE_take (i := 19) (v := ?_) rfl (by kernel_rfl) (by kernel_rfl) (by kernel_rfl) (fun _ _ _ h => h) (by rfl) ?_ ?_
      rotate_left
      · intro W hW; go_simp; try with_reducible rfl
      simp only [Act.put, List.setIfInBounds_toArray, List.set_cons_zero, List.set_cons_succ]
      refine regE_take (i := 20) (v := ?_) rfl (by kernel_rfl) (by kernel_rfl) (by kernel_rfl) (fun _ _ _ h => h) (by rfl) ?_ ?_
      rotate_left
      · intro W hW; have s1 := run_str (hW2.ext hW); go_simp; try with_reducible rfl
      simp only [Act.put, List.setIfInBounds_toArray, List.set_cons_zero, List.set_cons_succ]
      refine regE_take (i := 21) (v := ?_) rfl (by kernel_rfl) (by kernel_rfl) (by kernel_rfl) (fun _ _ _ h => h) (by rfl) ?_ ?_
      rotate_left
      · intro W hW; go_simp; try with_reducible rfl
      simp only [Act.put, List.setIfInBounds_toArray, List.set_cons_zero, List.set_cons_succ]
      refine regE_take (i := 22) (v := ?_) rfl (by kernel_rfl) (by kernel_rfl) (by kernel_rfl) (fun _ _ _ h => h) (by rfl) ?_ ?_
      rotate_left
      · intro W hW; go_simp; try with_reducible rfl
      simp only [Act.put, List.setIfInBounds_toArray, List.set_cons_zero, List.set_cons_succ]
      refine regE_take (i := 23) (v := ?_) rfl (by kernel_rfl) (by kernel_rfl) (by kernel_rfl) (fun _ _ _ h => h) (by rfl) ?_ ?_
      rotate_left
      · intro W hW; go_simp; try with_reducible rfl
      simp only [Act.put, List.setIfInBounds_toArray, List.set_cons_zero, List.set_cons_succ]
      refine regE_take (i := 24) (v := ?_) rfl (by kernel_rfl) (by kernel_rfl) (by kernel_rfl) (fun _ _ _ h => h) (by rfl) ?_ ?_
      rotate_left
      · intro W hW; have s1 := run_str (hP.ext hW); go_simp; try with_reducible rfl
      simp only [Act.put, List.setIfInBounds_toArray, List.set_cons_zero, List.set_cons_succ]
      refine regE_take (i := 25) (v := ?_) rfl (by kernel_rfl) (by kernel_rfl) (by kernel_rfl) (fun _ _ _ h => h) (by rfl) ?_ ?_
      rotate_left
      · intro W hW; go_simp; try with_reducible rfl
      simp only [Act.put, List.setIfInBounds_toArray, List.set_cons_zero, List.set_cons_succ]
      refine regE_do (i := 18) rfl (by kernel_rfl) (fun K hK => ?_)
      rw [if_pos (by rfl)]
      go_simp
      refine (S11.out _ (hb.ext hR)).mono ?_
      rintro e wr2 ⟨rfl, hXX⟩
      refine hK.out _ _ (hR.trans hXX) ?_
      clear hK K
      replace hR := hR.trans hXX
      clear hXX
      try simp only [Act.put, List.setIfInBounds_toArray, List.set_cons_zero, List.set_cons_succ]
      refine regE_take (i := 26) (v := ?_) rfl (by kernel_rfl) (by kernel_rfl) (by kernel_rfl) (fun _ _ _ h => h) (by rfl) ?_ ?_
      rotate_left
      · intro W hW; go_simp; try with_reducible rfl
      simp only [Act.put, List.setIfInBounds_toArray, List.set_cons_zero, List.set_cons_succ]
      refine regE_take (i := 27) (v := ?_) rfl (by kernel_rfl) (by kernel_rfl) (by kernel_rfl) (fun _ _ _ h => h) (by rfl) ?_ ?_
      rotate_left
      · intro W hW; go_simp; try with_reducible rfl
      simp only [Act.put, List.setIfInBounds_toArray, List.set_cons_zero, List.set_cons_succ]
      refine regE_take (i := 28) (v := ?_) rfl (by kernel_rfl) (by kernel_rfl) (by kernel_rfl) (fun _ _ _ h => h) (by rfl) ?_ ?_
      rotate_left
      · intro W hW; go_simp; try with_reducible rfl
      simp only [Act.put, List.setIfInBounds_toArray, List.set_cons_zero, List.set_cons_succ]
      refine regE_done (by kernel_rfl) ?_
      go_wp2_with fail
      go_ret
      exact ⟨rfl, hE.trans hR⟩
    · obtain ⟨q1, q2⟩ := vr_fail (b := b) (by rw [hEe]; exact hE0)
      have q4 : vrC b = false := decide_eq_false fun z => hE0 (by rw [← hEe]; exact z.1)
      have S5 := hide (fun W hb => v8read_any A n c b W hb (by omega) v8Zero q1 0 q2 E hEe)
      have S11 := hide (fun W hb => v8canon_any A n c b W hb (by omega) false q4)
      have hne : (E != 0) = true := bne_iff_ne.2 hE0
      have r1 := eql_zeroV
      clear q1 q2 q4 hEe hE0 hbl
      go_wp2_with fail
      refine (S5.out _ hb).mono ?_
      rintro e wa ⟨rfl, hE2⟩
      have hby := Blk.new wa 45 #[.bool false, .bool false, .int .i64 0, .bool false, .bool false, .int .i64 0, .bool false, .int .i64 0, .bool false, .bool false, .int .i64 0, .bool false, .int .i64 0]
      have hE3 := hE2.alloc (.cells #[.bool false, .bool false, .int .i64 0, .bool false, .bool false, .int .i64 0, .bool false, .int .i64 0, .bool false, .bool false, .int .i64 0, .bool false, .int .i64 0] 45)
      replace hE := hE.trans hE3
      replace hb := hb.ext hE3
      clear hE3 S5 hE2
      obtain ⟨⟨u0, u1, u2, u3, u4, u5, u6, u7, u8, u9, u10, u11, u12⟩, _, _⟩ := hby.thirteen
      go_wp2_with fail
      refine (S11.out _ hb).mono ?_
      rintro e wb ⟨rfl, hE3⟩
      go_wp2_with fail
      go_ret
      exact ⟨rfl, hE.trans hE3⟩
end Go.Proofs.Ytcdacnhggpfnaaa

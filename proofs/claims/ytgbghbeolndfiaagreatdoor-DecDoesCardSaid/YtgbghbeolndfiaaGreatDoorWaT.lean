/- The product. -/
import Derived.Test.YtgbghbeolndfiaaGreatDoorWaM
set_option linter.unusedSimpArgs false
set_option linter.unusedVariables false
set_option linter.constructorNameAsVariable false
namespace Go.Proofs.YtgbghbeolndfiaaGreatDoor
open Go.RowKit

theorem mul_sgn (b1 b2 : Bool) (m d : Nat) : sgn (b1 != b2) (m * d) = sgn b1 m * sgn b2 d := by
  cases b1 <;> cases b2 <;> simp [sgn, Int.neg_mul, Int.mul_neg]
/-- Two boxes are two; the store's mark is the first. -/
structure JM (x : Nat → Value) (w : World) : Prop where
  a : ∀ q, x 6 = .pointer (some ⟨q, 0, none⟩) → q < w.heap.size
  b : ∀ q, x 7 = .pointer (some ⟨q, 0, none⟩) → q < w.heap.size
  c : ∀ q, x 6 = .pointer (some ⟨q, 0, none⟩) → x 7 = .pointer (some ⟨q, 0, none⟩) → False
  d : ∀ q, x 8 = .pointer (some ⟨q, 0, none⟩) → x 6 = .pointer (some ⟨q, 0, none⟩)
theorem JM.step {B : Nat} {t : TypeId} {F : Array Value} {i : Nat} (hi : (i != 6 && i != 7 && i != 8) = true) : ∀ x v w1 w2, JM x w1 → RD B t F w1 w2 → JM (upd x i v) w2 := fun x v w1 w2 h hr => by
  simp only [Bool.and_eq_true, bne_iff_ne] at hi
  have h6 : upd x i v 6 = x 6 := by simp [upd]; omega
  have h7 : upd x i v 7 = x 7 := by simp [upd]; omega
  have h8 : upd x i v 8 = x 8 := by simp [upd]; omega
  have := hr.bl.size
  exact ⟨fun q hq => by rw [h6] at hq; have := h.a q hq; omega, fun q hq => by rw [h7] at hq; have := h.b q hq; omega, fun q hq hq' => by rw [h6] at hq; rw [h7] at hq'; exact h.c q hq hq', fun q hq => by rw [h8] at hq; rw [h6]; exact h.d q hq⟩
theorem JM.s6 {x : Nat → Value} {w : World} (h : JM x w) (h0 : ∀ q, x 8 ≠ .pointer (some ⟨q, 0, none⟩)) (o : Obj) : JM (upd x 6 (.pointer (some ⟨w.heap.size, 0, none⟩))) (w.alloc o) := by
  have h6 : upd x 6 (.pointer (some ⟨w.heap.size, 0, none⟩)) 6 = .pointer (some ⟨w.heap.size, 0, none⟩) := by simp [upd]
  have h7 : upd x 6 (.pointer (some ⟨w.heap.size, 0, none⟩)) 7 = x 7 := by simp [upd]
  have h8 : upd x 6 (.pointer (some ⟨w.heap.size, 0, none⟩)) 8 = x 8 := by simp [upd]
  refine ⟨fun q hq => ?_, fun q hq => ?_, fun q hq hq' => ?_, fun q hq => ?_⟩
  · rw [h6] at hq; have := ptr_inj hq; simp; omega
  · rw [h7] at hq; have := h.b q hq; simp; omega
  · rw [h6] at hq; rw [h7] at hq'; have := ptr_inj hq; have := h.b q hq'; omega
  · rw [h8] at hq; exact absurd hq (h0 q)
theorem JM.s7 {x : Nat → Value} {w : World} (h : JM x w) (o : Obj) : JM (upd x 7 (.pointer (some ⟨w.heap.size, 0, none⟩))) (w.alloc o) := by
  have h6 : upd x 7 (.pointer (some ⟨w.heap.size, 0, none⟩)) 6 = x 6 := by simp [upd]
  have h7 : upd x 7 (.pointer (some ⟨w.heap.size, 0, none⟩)) 7 = .pointer (some ⟨w.heap.size, 0, none⟩) := by simp [upd]
  have h8 : upd x 7 (.pointer (some ⟨w.heap.size, 0, none⟩)) 8 = x 8 := by simp [upd]
  refine ⟨fun q hq => ?_, fun q hq => ?_, fun q hq hq' => ?_, fun q hq => ?_⟩
  · rw [h6] at hq; have := h.a q hq; simp; omega
  · rw [h7] at hq; have := ptr_inj hq; simp; omega
  · rw [h6] at hq; rw [h7] at hq'; have := ptr_inj hq'; have := h.a q hq; omega
  · rw [h8] at hq; rw [h6]; exact h.d q hq
theorem JM.s8 {x : Nat → Value} {w w' : World} (h : JM x w) (hs : w.heap.size ≤ w'.heap.size) {p : Nat} (hp : x 6 = .pointer (some ⟨p, 0, none⟩)) : JM (upd x 8 (.pointer (some ⟨p, 0, none⟩))) w' := by
  have h6 : upd x 8 (.pointer (some ⟨p, 0, none⟩)) 6 = x 6 := by simp [upd]
  have h7 : upd x 8 (.pointer (some ⟨p, 0, none⟩)) 7 = x 7 := by simp [upd]
  have h8 : upd x 8 (.pointer (some ⟨p, 0, none⟩)) 8 = .pointer (some ⟨p, 0, none⟩) := by simp [upd]
  refine ⟨fun q hq => ?_, fun q hq => ?_, fun q hq hq' => ?_, fun q hq => ?_⟩
  · rw [h6] at hq; have := h.a q hq; omega
  · rw [h7] at hq; have := h.b q hq; omega
  · rw [h6] at hq; rw [h7] at hq'; exact h.c q hq hq'
  · rw [h8] at hq; rw [h6, hp, hq]
set_option maxHeartbeats 8000000 in
theorem mul_any (n k : Int) (s t : Nat) (ha : Rt n s) (hB : Rt k t) (w : World) : Calls Tryz.prog 25 #[.agg #[.int .i64 n, .int .i64 (s : Int)], .agg #[.int .i64 k, .int .i64 (t : Int)]] w fun e w' =>
    e = .returned (.tuple #[.agg #[.int .i64 (mulF n s k t).1, .int .i64 (mulF n s k t).2.1], .int .i64 (mulF n s k t).2.2]) ∧ Below w.heap.size w w' := by
  have CA := Lib.hid (fun w => clean_right ha w)
  have CB := Lib.hid (fun w => clean_right hB w)
  have hs9 : s ≤ 9 := by have := ha.s9; omega
  have ht9 : t ≤ 9 := by have := hB.s9; omega
  go_enter Tryz.func25, Tryz.ntmps25
  go_wp2_with fail
  refine region_steps 4 [some 9, some 10, some 11, some 12] (by kernel_rfl) (by kernel_rfl) ?_
  -- 0: Op.load 23 (Operand.tmp 2)
  apply ls_val
  · intro x w' hb hpre K hK
    have hc := (bcell hb).1
    clear hpre
    simp only [frL, Act.put, List.setIfInBounds_toArray, List.set_cons_zero, List.set_cons_succ, Nat.zero_add, Nat.reduceAdd] at hK ⊢
    have HK := Lib.hid hK
    clear hK
    refine Held.mk ?_
    go_simp
    exact HK.out _ (Below.refl _ _)
  -- 1: Op.call { callee := Callee.value (Operand.func 47), args := #[Operand.tmp 9], argTypes := 
  apply ls_val
  · intro x w' hb hpre K hK
    have hc := (bcell hb).1
    simp [preds, Region.binds, phi, MP.val, MP.box, MP.row] at hpre
    simp only [frL, Act.put, List.setIfInBounds_toArray, List.set_cons_zero, List.set_cons_succ, Nat.zero_add, Nat.reduceAdd, hpre] at hK ⊢
    have HK := Lib.hid hK
    clear hK
    refine Held.mk ?_
    go_simp
    (with_reducible refine (CA.out _).mono ?_)
    rintro e w1 ⟨rfl, hb1⟩
    dsimp only
    exact HK.out _ hb1
  -- 2: Op.load 23 (Operand.tmp 3)
  apply ls_val
  · intro x w' hb hpre K hK
    have hc := (bcell hb).1
    clear hpre
    simp only [frL, Act.put, List.setIfInBounds_toArray, List.set_cons_zero, List.set_cons_succ, Nat.zero_add, Nat.reduceAdd] at hK ⊢
    have HK := Lib.hid hK
    clear hK
    refine Held.mk ?_
    go_simp
    exact HK.out _ (Below.refl _ _)
  -- 3: Op.call { callee := Callee.value (Operand.func 47), args := #[Operand.tmp 11], argTypes :=
  apply ls_val
  · intro x w' hb hpre K hK
    have hc := (bcell hb).1
    simp [preds, Region.binds, phi, MP.val, MP.box, MP.row] at hpre
    simp only [frL, Act.put, List.setIfInBounds_toArray, List.set_cons_zero, List.set_cons_succ, Nat.zero_add, Nat.reduceAdd, hpre] at hK ⊢
    have HK := Lib.hid hK
    clear hK
    refine Held.mk ?_
    go_simp
    (with_reducible refine (CB.out _).mono ?_)
    rintro e w1 ⟨rfl, hb1⟩
    dsimp only
    exact HK.out _ hb1
  intro x w' hb hp
  simp only [List.cons_append, List.nil_append, phis, MP.val, MP.box, MP.row, frL, Act.put, List.setIfInBounds_toArray, List.set_cons_zero, List.set_cons_succ, Nat.zero_add, Nat.reduceAdd] at hp ⊢
  obtain ⟨h0, h1, h2, h3, -⟩ := hp
  simp only [h0, h1, h2, h3]
  clear h0 h1 h2 h3
  have E0 : Blk w' w.heap.size #[.int .i64 n, .int .i64 (s : Int)] 23 := (Blk.alloc (Blk.alloc (Blk.here rfl rfl) _) _).below hb (by simp; omega)
  have E1 : Blk w' (w.heap.size + 1) #[.int .i64 k, .int .i64 (t : Int)] 23 := (Blk.alloc (Blk.here rfl (by simp)) _).below hb (by simp)
  have E2 : Blk w' (w.heap.size + 1 + 1) #[.int .i64 0, .int .i64 0] 23 := (Blk.here rfl (by simp)).below hb (by simp)
  have hw : Below w.heap.size w w' := Below.trans (by go_grown) (hb.mono (by simp; omega))
  clear hb CA CB
  obtain ⟨c00, c01, f00, f01⟩ := E0.two
  obtain ⟨c10, c11, f10, f11⟩ := E1.two
  obtain ⟨c20, c21, f20, f21⟩ := E2.two
  obtain ⟨m1, hm1⟩ : ∃ m, m = n.natAbs * powN 0 := ⟨_, rfl⟩
  obtain ⟨m2, hm2⟩ : ∃ m, m = k.natAbs * powN 0 := ⟨_, rfl⟩
  obtain ⟨b1, hb1⟩ : ∃ b, b = decide (n < 0) := ⟨_, rfl⟩
  obtain ⟨b2, hb2⟩ : ∃ b, b = decide (k < 0) := ⟨_, rfl⟩
  have hlo := ha.lo; have hhi := ha.hi; have klo := hB.lo; have khi := hB.hi
  have z1 : m1 = n.natAbs := by rw [hm1, powN_zero, Nat.mul_one]
  have z2 : m2 = k.natAbs := by rw [hm2, powN_zero, Nat.mul_one]
  have WA := Lib.hid (fun w => widen_any n 0 (by omega) (by omega) (by omega) w)
  have WB := Lib.hid (fun w => widen_any k 0 (by omega) (by omega) (by omega) w)
  rw [← hb1, ← hm1] at WA
  rw [← hb2, ← hm2] at WB
  simp only [Int.natCast_zero] at WA WB
  have lo1 : loN m1 = m1 := by unfold loN; omega
  have lo2 : loN m2 = m2 := by unfold loN; omega
  have WO := Lib.hid (fun w => mul64_any m1 m2 (by omega) (by omega) w)
  have hmul : mulF n s k t = fitW (b1 != b2) (m1 * m2) (s + t) := by
    unfold mulF
    rw [fitW_Z, mul_sgn, z1, z2, hb1, hb2, sgn_Z, sgn_Z]
    congr 1
  have hmm : m1 * m2 ≤ 999999999999999999 * 999999999999999999 := Nat.mul_le_mul (by omega) (by omega)
  have WF := Lib.hid (fun w => fit_any (b1 != b2) (m1 * m2) (s + t) (by omega) (by omega) w)
  obtain ⟨M, hM⟩ : ∃ M, M = s + t := ⟨_, rfl⟩
  rw [← hM] at WF hmul
  obtain ⟨b3, hb3⟩ : ∃ b, b = (b1 != b2) := ⟨_, rfl⟩
  obtain ⟨m3, hm3⟩ : ∃ m, m = m1 * m2 := ⟨_, rfl⟩
  obtain ⟨r, hr⟩ : ∃ r, r = fitW b3 m3 M := ⟨_, rfl⟩
  rw [← hm3] at WO
  rw [← hb3, ← hm3, ← hr] at WF
  rw [← hb3, ← hm3, ← hr] at hmul
  obtain ⟨r1, r2, r3⟩ := r
  simp only at WF
  have HDIV := Lib.hid hmul
  have g2 : IntKind.i64.wrap ((s : Int) + (t : Int)) = (M : Int) := by rw [IntKind.wrap_i64]; omega
  have HB3 := Lib.hid hb3
  rw [lo1] at WA
  rw [lo2] at WB
  have hi1 : hiN m1 = 0 := by unfold hiN; omega
  have hi2 : hiN m2 = 0 := by unfold hiN; omega
  rw [hi1] at WA
  rw [hi2] at WB
  clear hM hmul hr hb3 hm3 hb1 hb2 hm1 hm2 z1 z2 lo1 lo2 hi1 hi2 hmm
  go_upto_region 2 with fail
  refine wp_worldT ?_
  intro w2 hw2
  have F0 : Blk w2 w.heap.size #[.int .i64 n, .int .i64 (s : Int)] 23 := by rw [hw2]; exact (((E0.set 0 _).set 1 _).other (by simp) _).other (by simp) _
  have F1 : Blk w2 (w.heap.size + 1) #[.int .i64 k, .int .i64 (t : Int)] 23 := by rw [hw2]; exact (((E1.other (by simp) _).other (by simp) _).set 0 _).set 1 _
  have F2 : Blk w2 (w.heap.size + 1 + 1) #[.int .i64 0, .int .i64 0] 23 := by rw [hw2]; exact (((E2.other (by simp; try omega) _).other (by simp; try omega) _).other (by simp; try omega) _).other (by simp; try omega) _
  have hv : Below w.heap.size w w2 := by rw [hw2]; exact (((hw.setCell (by simp) _).setCell (by simp) _).setCell (by simp) _).setCell (by simp) _
  clear hw2 c00 c01 c10 c11 c20 c21 f00 f01 f10 f11 f20 f21 E0 E1 E2 hw w' x
  obtain ⟨c00, c01, -, -⟩ := F0.two
  obtain ⟨c10, c11, -, -⟩ := F1.two
  have l0 : w.heap.size < w2.heap.size := F0.lt
  have l1 : w.heap.size + 1 < w2.heap.size := F1.lt
  obtain ⟨A, hA⟩ : ∃ A : Array Value, A = #[.bool b1, .int .u64 ((0 : Nat) : Int), .int .u64 ((m1 : Nat) : Int)] := ⟨_, rfl⟩
  have HA := Lib.hid hA
  clear hA
  refine RC.region_steps (R := RD w2.heap.size 55 A) 9 [some 13, some 14, some 15, some 16, some 17, some 18, some 6, some 7, none] JM RD.trans RD.drew (fun w9 => ⟨fun q hq => by simp [orig, undef] at hq, fun q hq => by simp [orig, undef] at hq, fun q hq => by simp [orig, undef] at hq, fun q hq => by simp [orig, undef] at hq⟩) (by kernel_rfl) (by kernel_rfl) ?_
  -- 0: Op.fieldAddr 23 (Operand.tmp 2) 0
  apply RC.ls_val (JM.step (by decide))
  · intro x w' hb hpre K hK
    have z00 := (hb.bl.cell (p := ⟨w.heap.size, 0, none⟩) l0).trans c00
    have z01 := (hb.bl.cell (p := ⟨w.heap.size, 1, none⟩) l0).trans c01
    have z10 := (hb.bl.cell (p := ⟨w.heap.size + 1, 0, none⟩) l1).trans c10
    have z11 := (hb.bl.cell (p := ⟨w.heap.size + 1, 1, none⟩) l1).trans c11
    clear hpre
    simp only [frL, Act.put, List.setIfInBounds_toArray, List.set_cons_zero, List.set_cons_succ, Nat.zero_add, Nat.reduceAdd] at hK ⊢
    have HK := Lib.hid hK
    clear hK
    refine Held.mk ?_
    go_simp
    exact HK.out _ (RD.refl _)
  -- 1: Op.load 3 (Operand.tmp 13)
  apply RC.ls_val (JM.step (by decide))
  · intro x w' hb hpre K hK
    have z00 := (hb.bl.cell (p := ⟨w.heap.size, 0, none⟩) l0).trans c00
    have z01 := (hb.bl.cell (p := ⟨w.heap.size, 1, none⟩) l0).trans c01
    have z10 := (hb.bl.cell (p := ⟨w.heap.size + 1, 0, none⟩) l1).trans c10
    have z11 := (hb.bl.cell (p := ⟨w.heap.size + 1, 1, none⟩) l1).trans c11
    simp [preds, Region.binds, RC.phi, RC.MP.val] at hpre
    simp only [frL, Act.put, List.setIfInBounds_toArray, List.set_cons_zero, List.set_cons_succ, Nat.zero_add, Nat.reduceAdd, hpre] at hK ⊢
    have HK := Lib.hid hK
    clear hK
    refine Held.mk ?_
    go_simp
    exact HK.out _ (RD.refl _)
  -- 2: Op.call { callee := Callee.value (Operand.func 36), args := #[Operand.tmp 14, Op
  apply RC.ls_val (JM.step (by decide))
  · intro x w' hb hpre K hK
    have z00 := (hb.bl.cell (p := ⟨w.heap.size, 0, none⟩) l0).trans c00
    have z01 := (hb.bl.cell (p := ⟨w.heap.size, 1, none⟩) l0).trans c01
    have z10 := (hb.bl.cell (p := ⟨w.heap.size + 1, 0, none⟩) l1).trans c10
    have z11 := (hb.bl.cell (p := ⟨w.heap.size + 1, 1, none⟩) l1).trans c11
    simp [preds, Region.binds, RC.phi, RC.MP.val] at hpre
    simp only [frL, Act.put, List.setIfInBounds_toArray, List.set_cons_zero, List.set_cons_succ, Nat.zero_add, Nat.reduceAdd, hpre] at hK ⊢
    have HK := Lib.hid hK
    clear hK
    refine Held.mk ?_
    go_simp
    (with_reducible refine (WA.out _).mono ?_)
    rintro e w1 ⟨rfl, hb1⟩
    dsimp only
    exact HK.out _ (RD.ofBelow hb1 hb.bl.size)
  -- 3: Op.fieldAddr 23 (Operand.tmp 3) 0
  apply RC.ls_val (JM.step (by decide))
  · intro x w' hb hpre K hK
    have z00 := (hb.bl.cell (p := ⟨w.heap.size, 0, none⟩) l0).trans c00
    have z01 := (hb.bl.cell (p := ⟨w.heap.size, 1, none⟩) l0).trans c01
    have z10 := (hb.bl.cell (p := ⟨w.heap.size + 1, 0, none⟩) l1).trans c10
    have z11 := (hb.bl.cell (p := ⟨w.heap.size + 1, 1, none⟩) l1).trans c11
    clear hpre
    simp only [frL, Act.put, List.setIfInBounds_toArray, List.set_cons_zero, List.set_cons_succ, Nat.zero_add, Nat.reduceAdd] at hK ⊢
    have HK := Lib.hid hK
    clear hK
    refine Held.mk ?_
    go_simp
    exact HK.out _ (RD.refl _)
  -- 4: Op.load 3 (Operand.tmp 16)
  apply RC.ls_val (JM.step (by decide))
  · intro x w' hb hpre K hK
    have z00 := (hb.bl.cell (p := ⟨w.heap.size, 0, none⟩) l0).trans c00
    have z01 := (hb.bl.cell (p := ⟨w.heap.size, 1, none⟩) l0).trans c01
    have z10 := (hb.bl.cell (p := ⟨w.heap.size + 1, 0, none⟩) l1).trans c10
    have z11 := (hb.bl.cell (p := ⟨w.heap.size + 1, 1, none⟩) l1).trans c11
    simp [preds, Region.binds, RC.phi, RC.MP.val] at hpre
    simp only [frL, Act.put, List.setIfInBounds_toArray, List.set_cons_zero, List.set_cons_succ, Nat.zero_add, Nat.reduceAdd, hpre] at hK ⊢
    have HK := Lib.hid hK
    clear hK
    refine Held.mk ?_
    go_simp
    exact HK.out _ (RD.refl _)
  -- 5: Op.call { callee := Callee.value (Operand.func 36), args := #[Operand.tmp 17, Op
  apply RC.ls_val (JM.step (by decide))
  · intro x w' hb hpre K hK
    have z00 := (hb.bl.cell (p := ⟨w.heap.size, 0, none⟩) l0).trans c00
    have z01 := (hb.bl.cell (p := ⟨w.heap.size, 1, none⟩) l0).trans c01
    have z10 := (hb.bl.cell (p := ⟨w.heap.size + 1, 0, none⟩) l1).trans c10
    have z11 := (hb.bl.cell (p := ⟨w.heap.size + 1, 1, none⟩) l1).trans c11
    simp [preds, Region.binds, RC.phi, RC.MP.val] at hpre
    simp only [frL, Act.put, List.setIfInBounds_toArray, List.set_cons_zero, List.set_cons_succ, Nat.zero_add, Nat.reduceAdd, hpre] at hK ⊢
    have HK := Lib.hid hK
    clear hK
    refine Held.mk ?_
    go_simp
    (with_reducible refine (WB.out _).mono ?_)
    rintro e w1 ⟨rfl, hb1⟩
    dsimp only
    exact HK.out _ (RD.ofBelow hb1 hb.bl.size)
  -- 6: Op.alloc 55
  refine RC.ls_genO MPbox ?_ ?_
  · intro x w' hb hj hpre ho K hK
    have ho8 : ∀ q, x 8 ≠ .pointer (some ⟨q, 0, none⟩) := fun q hq => by rw [ho 8 (by omega) (by kernel_rfl)] at hq; simp [orig, undef] at hq
    clear ho
    have z00 := (hb.bl.cell (p := ⟨w.heap.size, 0, none⟩) l0).trans c00
    have z01 := (hb.bl.cell (p := ⟨w.heap.size, 1, none⟩) l0).trans c01
    have z10 := (hb.bl.cell (p := ⟨w.heap.size + 1, 0, none⟩) l1).trans c10
    have z11 := (hb.bl.cell (p := ⟨w.heap.size + 1, 1, none⟩) l1).trans c11
    clear hpre
    simp only [frL, Act.put, List.setIfInBounds_toArray, List.set_cons_zero, List.set_cons_succ, Nat.zero_add, Nat.reduceAdd] at hK ⊢
    have HK := Lib.hid hK
    clear hK
    refine Held.mk ?_
    go_simp
    exact HK.out _ _ ⟨_, _, _, _, rfl, hb.bl.size, Blk.new _ _ _⟩ (hj.s6 ho8 _) (RD.ofBelow ((Below.refl _ _).alloc (Nat.le_refl _) _) hb.bl.size)
  -- 7: Op.alloc 55
  refine RC.ls_gen MPbox ?_ ?_
  · intro x w' hb hj hpre K hK
    have z00 := (hb.bl.cell (p := ⟨w.heap.size, 0, none⟩) l0).trans c00
    have z01 := (hb.bl.cell (p := ⟨w.heap.size, 1, none⟩) l0).trans c01
    have z10 := (hb.bl.cell (p := ⟨w.heap.size + 1, 0, none⟩) l1).trans c10
    have z11 := (hb.bl.cell (p := ⟨w.heap.size + 1, 1, none⟩) l1).trans c11
    clear hpre
    simp only [frL, Act.put, List.setIfInBounds_toArray, List.set_cons_zero, List.set_cons_succ, Nat.zero_add, Nat.reduceAdd] at hK ⊢
    have HK := Lib.hid hK
    clear hK
    refine Held.mk ?_
    go_simp
    exact HK.out _ _ ⟨_, _, _, _, rfl, hb.bl.size, Blk.new _ _ _⟩ (hj.s7 _) (RD.ofBelow ((Below.refl _ _).alloc (Nat.le_refl _) _) hb.bl.size)
  -- 8: Op.store 55 (Operand.tmp 6) (Operand.tmp 15)
  refine RC.ls_gen MPfin ?_ ?_
  · intro x w' hb hj hpre K hK
    have p0 := hpre.1 rfl
    have p1 := hpre.2.1 rfl
    clear hpre
    simp [RC.phi, MPbox] at p0
    simp [RC.phi, RC.MP.val] at p1
    obtain ⟨q, hq, hBq, y1, y2, y3, hy⟩ := p0
    obtain ⟨d0, d1', d2', e0, e1, e2⟩ := hy.three
    have hp := RD.put (B := w2.heap.size) HA.out hy hBq
    simp only [frL, Act.put, List.setIfInBounds_toArray, List.set_cons_zero, List.set_cons_succ, Nat.zero_add, Nat.reduceAdd, hq, p1] at hK ⊢
    have HK := Lib.hid hK
    clear hK
    refine Held.mk ?_
    go_simp
    exact HK.out (.pointer (some ⟨q, 0, none⟩)) _ ⟨q, rfl, hBq, hp.2⟩ (hj.s8 hp.1.bl.size hq) hp.1
  intro x w' hb hp hJ
  simp only [List.cons_append, List.nil_append, RC.phis, RC.MP.val, frL, Act.put, List.setIfInBounds_toArray, List.set_cons_zero, List.set_cons_succ, Nat.zero_add, Nat.reduceAdd] at hp ⊢
  obtain ⟨h0, h1, h2, h3, h4, h5, h6, h7, h8, -⟩ := hp
  simp only [h0, h1, h2, h3, h4, h5]
  clear h0 h1 h2 h3 h4 h5
  clear WA WB
  obtain ⟨q, hq, hBq, hBl⟩ : ∃ q, x 8 = .pointer (some ⟨q, 0, none⟩) ∧ w2.heap.size ≤ q ∧ Blk w' q A 55 := h8
  have hq6 := hJ.d q hq
  obtain ⟨q7, y1, y2, y3, hq7, hBq7, hy⟩ : ∃ q a b c, x 7 = .pointer (some ⟨q, 0, none⟩) ∧ w2.heap.size ≤ q ∧ Blk w' q #[a, b, c] 55 := h7
  have hne : q ≠ q7 := fun e => hJ.c q hq6 (by rw [e]; exact hq7)
  rw [HA.out] at hBl
  have G0 : Blk w' w.heap.size #[.int .i64 n, .int .i64 (s : Int)] 23 := F0.below hb.bl F0.lt
  have G1 : Blk w' (w.heap.size + 1) #[.int .i64 k, .int .i64 (t : Int)] 23 := F1.below hb.bl F1.lt
  have G2 : Blk w' (w.heap.size + 1 + 1) #[.int .i64 0, .int .i64 0] 23 := F2.below hb.bl F2.lt
  have hu : Below w.heap.size w w' := hv.trans (hb.bl.mono hv.size)
  have l2 : w.heap.size + 1 + 1 < w2.heap.size := F2.lt
  simp only [hq6, hq7]
  clear h6 hJ hq hq6 hq7 hb c00 c01 c10 c11 F0 F1 F2 hv HA
  obtain ⟨p0, p1, p2, r0', r1', r2'⟩ := hy.three
  go_upto_region 3 with fail
  refine wp_worldT ?_
  intro w3 hw3
  have n0 : w.heap.size ≠ q7 := by omega
  have n1 : w.heap.size + 1 ≠ q7 := by omega
  have n2 : w.heap.size + 1 + 1 ≠ q7 := by omega
  have Gq : Blk w3 q #[.bool b1, .int .u64 0, .int .u64 ((m1 : Nat) : Int)] 55 := by rw [hw3]; exact ((hBl.other hne _).other hne _).other hne _
  have Gz : Blk w3 q7 #[.bool b2, .int .u64 0, .int .u64 ((m2 : Nat) : Int)] 55 := by rw [hw3]; exact ((hy.set 0 _).set 1 _).set 2 _
  have H0 : Blk w3 w.heap.size #[.int .i64 n, .int .i64 (s : Int)] 23 := by rw [hw3]; exact ((G0.other n0 _).other n0 _).other n0 _
  have H1 : Blk w3 (w.heap.size + 1) #[.int .i64 k, .int .i64 (t : Int)] 23 := by rw [hw3]; exact ((G1.other n1 _).other n1 _).other n1 _
  have H2 : Blk w3 (w.heap.size + 1 + 1) #[.int .i64 0, .int .i64 0] 23 := by rw [hw3]; exact ((G2.other n2 _).other n2 _).other n2 _
  have hv : Below w.heap.size w w3 := by rw [hw3]; exact ((hu.setCell (by simp; omega) _).setCell (by simp; omega) _).setCell (by simp; omega) _
  clear hw3 G0 G1 G2 hu hBl hy p0 p1 p2 r0' r1' r2' n0 n1 n2 hne hBq hBq7 l0 l1 l2 w' x
  obtain ⟨c00, c01, f00, f01⟩ := H0.two
  obtain ⟨c10, c11, f10, f11⟩ := H1.two
  obtain ⟨d0, d1, d2, e0, e1, e2⟩ := Gq.three
  obtain ⟨g0, g1, g3, g4, g5, g6⟩ := Gz.three
  have k0 : w.heap.size < w3.heap.size := H0.lt
  have k1 : w.heap.size + 1 < w3.heap.size := H1.lt
  have k2 : q < w3.heap.size := Gq.lt
  have k3 : q7 < w3.heap.size := Gz.lt
  go_wp2_with (first
    | (go_at_call 48; refine (WO.out _).mono ?_; rintro e w4 ⟨rfl, rfl⟩)
    | (go_at_call 35; rw [show (!(b1 == b2)) = b3 from HB3.out.symm]
       with_reducible refine (WF.out _).mono ?_; rintro e w5 ⟨rfl, hb⟩
       have J2 := (H2.alloc _).below hb (by have := H2.lt; simp; omega)
       have hw5 : Below w.heap.size w w5 := (hv.alloc hv.size _).trans (hb.mono (by have := hv.size; simp; omega))
       obtain ⟨c50, c51, f50, f51⟩ := J2.two
       clear hb))
  refine bodyPost_ret (v := .tuple #[.agg #[.int .i64 r1, .int .i64 r2], .int .i64 r3]) (by simp [results, Tryz.results25, go_sem, c50, c51]) rfl ⟨by rw [HDIV.out], ?_⟩
  go_grown
  all_goals first | exact hw5 | exact hw5.size
end Go.Proofs.YtgbghbeolndfiaaGreatDoor

/- What the program says is right. -/
import Derived.Test.YtaoobajokhcimaaGreatDoorAtX
import Derived.Test.YtaoobajokhcimaaGreatDoorAtK
import Derived.Test.YtaoobajokhcimaaGreatDoorAtR
import Derived.Test.YtaoobajokhcimaaGreatDoorWaG
import Derived.Test.YtaoobajokhcimaaGreatDoorMgC
set_option linter.unusedSimpArgs false
set_option linter.unusedVariables false
set_option linter.constructorNameAsVariable false
namespace Go.Proofs.YtaoobajokhcimaaGreatDoor
open Go.RowKit

/-- What the walks ask of the laid variables, where texts are looked through. -/
structure LaidU (m : Int) (w : World) : Prop where
  base : Laid m w
  u8 : U8T w
theorem u8_on {w w' : World} (h : U8T w) (hb : Below w.heap.size w w') : U8T w' := Utf8Tabs_below h hb
theorem LaidU.on {m : Int} {w w' : World} (h : LaidU m w) (hb : Below w.heap.size w w') : LaidU m w' := ⟨h.base.on hb, u8_on h.u8 hb⟩
theorem if_one (p : Prop) [Decidable p] (w : World) : (if p then Result.ok (Next.value (.bool true)) w else Result.ok (Next.value (.bool false)) w) = Result.ok (Next.value (.bool (decide p))) w := by
  by_cases hp : p <;> simp [hp]
theorem if_two (p q : Prop) [Decidable p] [Decidable q] (w : World) : (if p then if q then Result.ok (Next.value (.bool true)) w else Result.ok (Next.value (.bool false)) w else Result.ok (Next.value (.bool false)) w) = Result.ok (Next.value (.bool (decide p && decide q))) w := by
  by_cases hp : p <;> by_cases hq : q <;> simp [hp, hq]
theorem if_three (p q r : Prop) [Decidable p] [Decidable q] [Decidable r] (w : World) : (if p then if q then if r then Result.ok (Next.value (.bool true)) w else Result.ok (Next.value (.bool false)) w else Result.ok (Next.value (.bool false)) w else Result.ok (Next.value (.bool false)) w) = Result.ok (Next.value (.bool (decide p && (decide q && decide r)))) w := by
  by_cases hp : p <;> by_cases hq : q <;> by_cases hr : r <;> simp [hp, hq, hr]
theorem if_threeN (p q : Prop) [Decidable p] [Decidable q] (b : Bool) (w : World) : (if p then if q then if b = true then Result.ok (Next.value (.bool false)) w else Result.ok (Next.value (.bool true)) w else Result.ok (Next.value (.bool false)) w else Result.ok (Next.value (.bool false)) w) = Result.ok (Next.value (.bool (decide p && (decide q && !b)))) w := by
  by_cases hp : p <;> by_cases hq : q <;> cases b <;> simp [hp, hq]
theorem if_twoN (p : Prop) [Decidable p] (b : Bool) (w : World) : (if p then if b = true then Result.ok (Next.value (.bool false)) w else Result.ok (Next.value (.bool true)) w else Result.ok (Next.value (.bool false)) w) = Result.ok (Next.value (.bool (decide p && !b))) w := by
  by_cases hp : p <;> cases b <;> simp [hp]
theorem tl_nil (t : ByteArray) : decide (t.toList = (bs []).toList) = decide (t = bs []) := by
  rw [nil_list, Lib.toList_data, Lib.toList_data]
  show decide (t.data.toList = []) = _
  cases e : t.data.toList <;> simp

/-- How right is what comes in, by its kind. -/
theorem ra_1 (n s : Int) (t : ByteArray) (b : Bool) : rightA ⟨1, n, s, t, b⟩ = ((decide (s = 0) && (decide (t.toList = (bs []).toList) && !b)) && (decide (-999999999999999999 ≤ n) && decide (n ≤ 999999999999999999))) := by
  rw [tl_nil]
  unfold rightA
  by_cases hs : s = 0
  · subst hs
    by_cases ht : t = bs []
    · subst ht
      cases b
      · have : rightF n 0 = (decide (-999999999999999999 ≤ n) && decide (n ≤ 999999999999999999)) := by
          unfold rightF
          have e1 : decide (n < -999999999999999999) = !decide (-999999999999999999 ≤ n) := by rw [Bool.eq_iff_iff]; simp; 
          have e2 : decide (999999999999999999 < n) = !decide (n ≤ 999999999999999999) := by rw [Bool.eq_iff_iff]; simp
          simp [e1, e2]
        simp [this]
      · simp
    · simp [ht]
  · simp [hs]
theorem ra_2 (n s : Int) (t : ByteArray) (b : Bool) : rightA ⟨2, n, s, t, b⟩ = ((decide (t.toList = (bs []).toList) && !b) && rightF n s) := by
  rw [tl_nil]
  unfold rightA
  by_cases ht : t = bs []
  · subst ht
    cases b <;> simp
  · simp [ht]
theorem ra_3 (n s : Int) (t : ByteArray) (b : Bool) : rightA ⟨3, n, s, t, b⟩ = ((decide (n = 0) && (decide (s = 0) && !b)) && validF t) := by
  unfold rightA
  by_cases hn : n = 0 <;> by_cases hs : s = 0 <;> cases b <;> simp [hn, hs]
theorem ra_4 (n s : Int) (t : ByteArray) (b : Bool) : rightA ⟨4, n, s, t, b⟩ = (decide (n = 0) && (decide (s = 0) && decide (t.toList = (bs []).toList))) := by
  rw [tl_nil]
  unfold rightA
  by_cases hn : n = 0 <;> by_cases hs : s = 0 <;> by_cases ht : t = bs [] <;> simp [hn, hs, ht]
theorem ra_5 (n s : Int) (t : ByteArray) (b : Bool) : rightA ⟨5, n, s, t, b⟩ = ((decide (n = 0) && (decide (s = 0) && !b)) && validF t) := by
  unfold rightA
  by_cases hn : n = 0 <;> by_cases hs : s = 0 <;> cases b <;> simp [hn, hs]
theorem ra_k (k n s : Int) (t : ByteArray) (b : Bool) (h1 : (k == 1) = false) (h2 : (k == 2) = false) (h3 : (k == 3) = false) (h4 : (k == 4) = false) (h5 : (k == 5) = false) : rightA ⟨k, n, s, t, b⟩ = false := by
  unfold rightA
  simp [h1, h2, h3, h4, h5]

set_option maxRecDepth 100000 in
set_option maxHeartbeats 1000000 in
theorem right_4 (n s : Int) (t : ByteArray) (b : Bool) (w : World) : Calls Tryz.prog 49 #[.agg #[.int .i64 4, .int .i64 n, .int .i64 s, .string t, .bool b]] w fun e w' => e = .returned (.bool (rightA ⟨4, n, s, t, b⟩)) ∧ Below w.heap.size w w' := by
  rw [ra_4]
  have CO := Lib.hid (fun w => truth_any b w)
  skip
  ·
    go_enter Tryz.func49, Tryz.ntmps49
    go_wp2_with fail
    have B0 : Blk (w.alloc (.cells #[.int .i64 4, .int .i64 n, .int .i64 s, .string t, .bool b] 24)) w.heap.size #[.int .i64 4, .int .i64 n, .int .i64 s, .string t, .bool b] 24 := Blk.here rfl rfl
    have hw0 := (Below.refl w.heap.size w).alloc (Nat.le_refl _) (.cells #[.int .i64 4, .int .i64 n, .int .i64 s, .string t, .bool b] 24)
    have k0 := B0.lt
    obtain ⟨⟨a0, a1, a2, a3, a4⟩, -⟩ := B0.five
    generalize w.alloc (.cells #[.int .i64 4, .int .i64 n, .int .i64 s, .string t, .bool b] 24) = W at *
    refine region_steps 6 [some 67, some 68, some 69, some 70, some 71, some 2] (by kernel_rfl) (by kernel_rfl) ?_
    -- 0: Op.load 24 (Operand.tmp 1)
    apply ls_val
    · intro x w' hb hpre K hK
      have hc := (bcell hb).1
      clear hpre
      simp only [frL, Act.put, List.setIfInBounds_toArray, List.set_cons_zero, List.set_cons_succ, Nat.zero_add, Nat.reduceAdd] at hK ⊢
      have HK := Lib.hid hK
      clear hK
      refine Held.mk ?_
      go_simp
      exact HK.out _ (Below.refl _ _)
    -- 1: Op.fieldAddr 24 (Operand.tmp 1) 4
    apply ls_val
    · intro x w' hb hpre K hK
      have hc := (bcell hb).1
      clear hpre
      simp only [frL, Act.put, List.setIfInBounds_toArray, List.set_cons_zero, List.set_cons_succ, Nat.zero_add, Nat.reduceAdd] at hK ⊢
      have HK := Lib.hid hK
      clear hK
      refine Held.mk ?_
      go_simp
      exact HK.out _ (Below.refl _ _)
    -- 2: Op.load 4 (Operand.tmp 68)
    apply ls_val
    · intro x w' hb hpre K hK
      have hc := (bcell hb).1
      simp [preds, Region.binds, phi, MP.val, MP.box, MP.row] at hpre
      simp only [frL, Act.put, List.setIfInBounds_toArray, List.set_cons_zero, List.set_cons_succ, Nat.zero_add, Nat.reduceAdd, hpre] at hK ⊢
      have HK := Lib.hid hK
      clear hK
      refine Held.mk ?_
      go_simp
      exact HK.out _ (Below.refl _ _)
    -- 3: Op.call { callee := Callee.value (Operand.func 23), args := #[Operand.tmp 69], argTypes :=
    apply ls_val
    · intro x w' hb hpre K hK
      have hc := (bcell hb).1
      simp [preds, Region.binds, phi, MP.val, MP.box, MP.row] at hpre
      simp only [frL, Act.put, List.setIfInBounds_toArray, List.set_cons_zero, List.set_cons_succ, Nat.zero_add, Nat.reduceAdd, hpre] at hK ⊢
      have HK := Lib.hid hK
      clear hK
      refine Held.mk ?_
      go_simp
      (with_reducible refine (CO.out _).mono ?_)
      rintro e w1 ⟨rfl, hb1⟩
      dsimp only
      exact HK.out _ hb1
    -- 4: Op.binOp BinOp.eql 24 (Operand.tmp 67) (Operand.tmp 70) 24
    refine ls_val (v := .bool (decide (n = 0) && (decide (s = 0) && decide (t.toList = (bs []).toList)))) ?_ ?_
    · intro x w' hb hpre K hK
      have hc := (bcell hb).1
      simp [preds, Region.binds, phi, MP.val, MP.box, MP.row] at hpre
      simp only [frL, Act.put, List.setIfInBounds_toArray, List.set_cons_zero, List.set_cons_succ, Nat.zero_add, Nat.reduceAdd, hpre] at hK ⊢
      have HK := Lib.hid hK
      clear hK
      refine Held.mk ?_
      go_simp
      rw [if_three]
      exact HK.out _ (Below.refl _ _)
    -- 5: Op.assign (Operand.tmp 71)
    apply ls_val
    · intro x w' hb hpre K hK
      have hc := (bcell hb).1
      simp [preds, Region.binds, phi, MP.val, MP.box, MP.row] at hpre
      simp only [frL, Act.put, List.setIfInBounds_toArray, List.set_cons_zero, List.set_cons_succ, Nat.zero_add, Nat.reduceAdd, hpre] at hK ⊢
      have HK := Lib.hid hK
      clear hK
      refine Held.mk ?_
      go_simp
      exact HK.out _ (Below.refl _ _)
    intro x w' hb hp
    simp only [List.cons_append, List.nil_append, phis, MP.val, MP.box, MP.row, frL, Act.put, List.setIfInBounds_toArray, List.set_cons_zero, List.set_cons_succ, Nat.zero_add, Nat.reduceAdd] at hp ⊢
    obtain ⟨h0, h1, h2, h3, h4, h5, -⟩ := hp
    simp only [h0, h1, h2, h3, h4, h5]
    clear h0 h1 h2 h3 h4 h5
    show wpList Tryz.prog _ _ [] _ _
    have hw1 := hw0.trans (hb.mono hw0.size)
    clear hb B0 a0 a1 a2 a3 a4 hw0
    go_wp2_with fail
    go_returns
    exact ⟨rfl, hw1⟩

set_option maxRecDepth 100000 in
set_option maxHeartbeats 1000000 in
theorem right_1 (n s : Int) (t : ByteArray) (b : Bool) (w : World) : Calls Tryz.prog 49 #[.agg #[.int .i64 1, .int .i64 n, .int .i64 s, .string t, .bool b]] w fun e w' => e = .returned (.bool (rightA ⟨1, n, s, t, b⟩)) ∧ Below w.heap.size w w' := by
  rw [ra_1]
  have CO := Lib.hid (fun w => of_any n w)
  cases hg : (decide (s = 0) && (decide (t.toList = (bs []).toList) && !b))
  ·
    go_enter Tryz.func49, Tryz.ntmps49
    go_wp2_with fail
    have B0 : Blk (w.alloc (.cells #[.int .i64 1, .int .i64 n, .int .i64 s, .string t, .bool b] 24)) w.heap.size #[.int .i64 1, .int .i64 n, .int .i64 s, .string t, .bool b] 24 := Blk.here rfl rfl
    have hw0 := (Below.refl w.heap.size w).alloc (Nat.le_refl _) (.cells #[.int .i64 1, .int .i64 n, .int .i64 s, .string t, .bool b] 24)
    have k0 := B0.lt
    obtain ⟨⟨a0, a1, a2, a3, a4⟩, -⟩ := B0.five
    generalize w.alloc (.cells #[.int .i64 1, .int .i64 n, .int .i64 s, .string t, .bool b] 24) = W at *
    refine region_steps 16 [some 8, some 9, some 10, some 11, some 12, some 13, some 14, some 15, some 16, some 17, some 18, some 19, some 20, some 21, some 22, some 2] (by kernel_rfl) (by kernel_rfl) ?_
    -- 0: Op.load 24 (Operand.tmp 1)
    apply ls_val
    · intro x w' hb hpre K hK
      have hc := (bcell hb).1
      clear hpre
      simp only [frL, Act.put, List.setIfInBounds_toArray, List.set_cons_zero, List.set_cons_succ, Nat.zero_add, Nat.reduceAdd] at hK ⊢
      have HK := Lib.hid hK
      clear hK
      refine Held.mk ?_
      go_simp
      exact HK.out _ (Below.refl _ _)
    -- 1: Op.fieldAddr 24 (Operand.tmp 1) 1
    apply ls_val
    · intro x w' hb hpre K hK
      have hc := (bcell hb).1
      clear hpre
      simp only [frL, Act.put, List.setIfInBounds_toArray, List.set_cons_zero, List.set_cons_succ, Nat.zero_add, Nat.reduceAdd] at hK ⊢
      have HK := Lib.hid hK
      clear hK
      refine Held.mk ?_
      go_simp
      exact HK.out _ (Below.refl _ _)
    -- 2: Op.load 3 (Operand.tmp 9)
    apply ls_val
    · intro x w' hb hpre K hK
      have hc := (bcell hb).1
      simp [preds, Region.binds, phi, MP.val, MP.box, MP.row] at hpre
      simp only [frL, Act.put, List.setIfInBounds_toArray, List.set_cons_zero, List.set_cons_succ, Nat.zero_add, Nat.reduceAdd, hpre] at hK ⊢
      have HK := Lib.hid hK
      clear hK
      refine Held.mk ?_
      go_simp
      exact HK.out _ (Below.refl _ _)
    -- 3: Op.call { callee := Callee.value (Operand.func 19), args := #[Operand.tmp 10], argTypes :=
    apply ls_val
    · intro x w' hb hpre K hK
      have hc := (bcell hb).1
      simp [preds, Region.binds, phi, MP.val, MP.box, MP.row] at hpre
      simp only [frL, Act.put, List.setIfInBounds_toArray, List.set_cons_zero, List.set_cons_succ, Nat.zero_add, Nat.reduceAdd, hpre] at hK ⊢
      have HK := Lib.hid hK
      clear hK
      refine Held.mk ?_
      go_simp
      (with_reducible refine (CO.out _).mono ?_)
      rintro e w1 ⟨rfl, hb1⟩
      dsimp only
      exact HK.out _ hb1
    -- 4: Op.binOp BinOp.eql 24 (Operand.tmp 8) (Operand.tmp 11) 24
    refine ls_val (v := .bool false) ?_ ?_
    · intro x w' hb hpre K hK
      have hc := (bcell hb).1
      simp [preds, Region.binds, phi, MP.val, MP.box, MP.row] at hpre
      simp only [frL, Act.put, List.setIfInBounds_toArray, List.set_cons_zero, List.set_cons_succ, Nat.zero_add, Nat.reduceAdd, hpre] at hK ⊢
      have HK := Lib.hid hK
      clear hK
      refine Held.mk ?_
      go_simp
      rw [if_threeN, hg]
      exact HK.out _ (Below.refl _ _)
    -- 5: Op.move (Operand.tmp 12)
    apply ls_val
    · intro x w' hb hpre K hK
      have hc := (bcell hb).1
      simp [preds, Region.binds, phi, MP.val, MP.box, MP.row] at hpre
      simp only [frL, Act.put, List.setIfInBounds_toArray, List.set_cons_zero, List.set_cons_succ, Nat.zero_add, Nat.reduceAdd, hpre] at hK ⊢
      have HK := Lib.hid hK
      clear hK
      refine Held.mk ?_
      go_simp
      exact HK.out _ (Below.refl _ _)
    -- 6: Op.fieldAddr 24 (Operand.tmp 1) 1
    apply ls_val
    · intro x w' hb hpre K hK
      have hc := (bcell hb).1
      simp [preds, Region.binds, phi, MP.val, MP.box, MP.row] at hpre
      simp only [frL, Act.put, List.setIfInBounds_toArray, List.set_cons_zero, List.set_cons_succ, Nat.zero_add, Nat.reduceAdd, hpre] at hK ⊢
      have HK := Lib.hid hK
      clear hK
      refine Held.mk ?_
      go_simp
      exact HK.out _ (Below.refl _ _)
    -- 7: Op.load 3 (Operand.tmp 14)
    apply ls_val
    · intro x w' hb hpre K hK
      have hc := (bcell hb).1
      simp [preds, Region.binds, phi, MP.val, MP.box, MP.row] at hpre
      simp only [frL, Act.put, List.setIfInBounds_toArray, List.set_cons_zero, List.set_cons_succ, Nat.zero_add, Nat.reduceAdd, hpre] at hK ⊢
      have HK := Lib.hid hK
      clear hK
      refine Held.mk ?_
      go_simp
      exact HK.out _ (Below.refl _ _)
    -- 8: Op.binOp BinOp.geq 3 (Operand.tmp 15) (Operand.const (Value.int IntKind.i64 (-999999999999
    apply ls_val
    · intro x w' hb hpre K hK
      have hc := (bcell hb).1
      simp [preds, Region.binds, phi, MP.val, MP.box, MP.row] at hpre
      simp only [frL, Act.put, List.setIfInBounds_toArray, List.set_cons_zero, List.set_cons_succ, Nat.zero_add, Nat.reduceAdd, hpre] at hK ⊢
      have HK := Lib.hid hK
      clear hK
      refine Held.mk ?_
      go_simp
      exact HK.out _ (Below.refl _ _)
    -- 9: Op.pick (Operand.tmp 13) (Operand.tmp 16) (Operand.const (Value.bool false))
    apply ls_val
    · intro x w' hb hpre K hK
      have hc := (bcell hb).1
      simp [preds, Region.binds, phi, MP.val, MP.box, MP.row] at hpre
      simp only [frL, Act.put, List.setIfInBounds_toArray, List.set_cons_zero, List.set_cons_succ, Nat.zero_add, Nat.reduceAdd, hpre] at hK ⊢
      have HK := Lib.hid hK
      clear hK
      refine Held.mk ?_
      go_simp
      exact HK.out _ (Below.refl _ _)
    -- 10: Op.move (Operand.tmp 17)
    apply ls_val
    · intro x w' hb hpre K hK
      have hc := (bcell hb).1
      simp [preds, Region.binds, phi, MP.val, MP.box, MP.row] at hpre
      simp only [frL, Act.put, List.setIfInBounds_toArray, List.set_cons_zero, List.set_cons_succ, Nat.zero_add, Nat.reduceAdd, hpre] at hK ⊢
      have HK := Lib.hid hK
      clear hK
      refine Held.mk ?_
      go_simp
      exact HK.out _ (Below.refl _ _)
    -- 11: Op.fieldAddr 24 (Operand.tmp 1) 1
    apply ls_val
    · intro x w' hb hpre K hK
      have hc := (bcell hb).1
      simp [preds, Region.binds, phi, MP.val, MP.box, MP.row] at hpre
      simp only [frL, Act.put, List.setIfInBounds_toArray, List.set_cons_zero, List.set_cons_succ, Nat.zero_add, Nat.reduceAdd, hpre] at hK ⊢
      have HK := Lib.hid hK
      clear hK
      refine Held.mk ?_
      go_simp
      exact HK.out _ (Below.refl _ _)
    -- 12: Op.load 3 (Operand.tmp 19)
    apply ls_val
    · intro x w' hb hpre K hK
      have hc := (bcell hb).1
      simp [preds, Region.binds, phi, MP.val, MP.box, MP.row] at hpre
      simp only [frL, Act.put, List.setIfInBounds_toArray, List.set_cons_zero, List.set_cons_succ, Nat.zero_add, Nat.reduceAdd, hpre] at hK ⊢
      have HK := Lib.hid hK
      clear hK
      refine Held.mk ?_
      go_simp
      exact HK.out _ (Below.refl _ _)
    -- 13: Op.binOp BinOp.leq 3 (Operand.tmp 20) (Operand.const (Value.int IntKind.i64 99999999999999
    apply ls_val
    · intro x w' hb hpre K hK
      have hc := (bcell hb).1
      simp [preds, Region.binds, phi, MP.val, MP.box, MP.row] at hpre
      simp only [frL, Act.put, List.setIfInBounds_toArray, List.set_cons_zero, List.set_cons_succ, Nat.zero_add, Nat.reduceAdd, hpre] at hK ⊢
      have HK := Lib.hid hK
      clear hK
      refine Held.mk ?_
      go_simp
      exact HK.out _ (Below.refl _ _)
    -- 14: Op.pick (Operand.tmp 18) (Operand.tmp 21) (Operand.const (Value.bool false))
    apply ls_val
    · intro x w' hb hpre K hK
      have hc := (bcell hb).1
      simp [preds, Region.binds, phi, MP.val, MP.box, MP.row] at hpre
      simp only [frL, Act.put, List.setIfInBounds_toArray, List.set_cons_zero, List.set_cons_succ, Nat.zero_add, Nat.reduceAdd, hpre] at hK ⊢
      have HK := Lib.hid hK
      clear hK
      refine Held.mk ?_
      go_simp
      exact HK.out _ (Below.refl _ _)
    -- 15: Op.assign (Operand.tmp 22)
    apply ls_val
    · intro x w' hb hpre K hK
      have hc := (bcell hb).1
      simp [preds, Region.binds, phi, MP.val, MP.box, MP.row] at hpre
      simp only [frL, Act.put, List.setIfInBounds_toArray, List.set_cons_zero, List.set_cons_succ, Nat.zero_add, Nat.reduceAdd, hpre] at hK ⊢
      have HK := Lib.hid hK
      clear hK
      refine Held.mk ?_
      go_simp
      exact HK.out _ (Below.refl _ _)
    intro x w' hb hp
    simp only [List.cons_append, List.nil_append, phis, MP.val, MP.box, MP.row, frL, Act.put, List.setIfInBounds_toArray, List.set_cons_zero, List.set_cons_succ, Nat.zero_add, Nat.reduceAdd] at hp ⊢
    obtain ⟨h0, h1, h2, h3, h4, h5, h6, h7, h8, h9, h10, h11, h12, h13, h14, h15, -⟩ := hp
    simp only [h0, h1, h2, h3, h4, h5, h6, h7, h8, h9, h10, h11, h12, h13, h14, h15]
    clear h0 h1 h2 h3 h4 h5 h6 h7 h8 h9 h10 h11 h12 h13 h14 h15
    show wpList Tryz.prog _ _ [] _ _
    have hw1 := hw0.trans (hb.mono hw0.size)
    clear hb B0 a0 a1 a2 a3 a4 hw0
    go_wp2_with fail
    go_returns
    exact ⟨rfl, hw1⟩
  · cases e1 : decide (-999999999999999999 ≤ n)
    all_goals
      go_enter Tryz.func49, Tryz.ntmps49
      go_wp2_with fail
      have B0 : Blk (w.alloc (.cells #[.int .i64 1, .int .i64 n, .int .i64 s, .string t, .bool b] 24)) w.heap.size #[.int .i64 1, .int .i64 n, .int .i64 s, .string t, .bool b] 24 := Blk.here rfl rfl
      have hw0 := (Below.refl w.heap.size w).alloc (Nat.le_refl _) (.cells #[.int .i64 1, .int .i64 n, .int .i64 s, .string t, .bool b] 24)
      have k0 := B0.lt
      obtain ⟨⟨a0, a1, a2, a3, a4⟩, -⟩ := B0.five
      generalize w.alloc (.cells #[.int .i64 1, .int .i64 n, .int .i64 s, .string t, .bool b] 24) = W at *
      refine region_steps 16 [some 8, some 9, some 10, some 11, some 12, some 13, some 14, some 15, some 16, some 17, some 18, some 19, some 20, some 21, some 22, some 2] (by kernel_rfl) (by kernel_rfl) ?_
      -- 0: Op.load 24 (Operand.tmp 1)
      apply ls_val
      · intro x w' hb hpre K hK
        have hc := (bcell hb).1
        clear hpre
        simp only [frL, Act.put, List.setIfInBounds_toArray, List.set_cons_zero, List.set_cons_succ, Nat.zero_add, Nat.reduceAdd] at hK ⊢
        have HK := Lib.hid hK
        clear hK
        refine Held.mk ?_
        go_simp
        exact HK.out _ (Below.refl _ _)
      -- 1: Op.fieldAddr 24 (Operand.tmp 1) 1
      apply ls_val
      · intro x w' hb hpre K hK
        have hc := (bcell hb).1
        clear hpre
        simp only [frL, Act.put, List.setIfInBounds_toArray, List.set_cons_zero, List.set_cons_succ, Nat.zero_add, Nat.reduceAdd] at hK ⊢
        have HK := Lib.hid hK
        clear hK
        refine Held.mk ?_
        go_simp
        exact HK.out _ (Below.refl _ _)
      -- 2: Op.load 3 (Operand.tmp 9)
      apply ls_val
      · intro x w' hb hpre K hK
        have hc := (bcell hb).1
        simp [preds, Region.binds, phi, MP.val, MP.box, MP.row] at hpre
        simp only [frL, Act.put, List.setIfInBounds_toArray, List.set_cons_zero, List.set_cons_succ, Nat.zero_add, Nat.reduceAdd, hpre] at hK ⊢
        have HK := Lib.hid hK
        clear hK
        refine Held.mk ?_
        go_simp
        exact HK.out _ (Below.refl _ _)
      -- 3: Op.call { callee := Callee.value (Operand.func 19), args := #[Operand.tmp 10], argTypes :=
      apply ls_val
      · intro x w' hb hpre K hK
        have hc := (bcell hb).1
        simp [preds, Region.binds, phi, MP.val, MP.box, MP.row] at hpre
        simp only [frL, Act.put, List.setIfInBounds_toArray, List.set_cons_zero, List.set_cons_succ, Nat.zero_add, Nat.reduceAdd, hpre] at hK ⊢
        have HK := Lib.hid hK
        clear hK
        refine Held.mk ?_
        go_simp
        (with_reducible refine (CO.out _).mono ?_)
        rintro e w1 ⟨rfl, hb1⟩
        dsimp only
        exact HK.out _ hb1
      -- 4: Op.binOp BinOp.eql 24 (Operand.tmp 8) (Operand.tmp 11) 24
      refine ls_val (v := .bool true) ?_ ?_
      · intro x w' hb hpre K hK
        have hc := (bcell hb).1
        simp [preds, Region.binds, phi, MP.val, MP.box, MP.row] at hpre
        simp only [frL, Act.put, List.setIfInBounds_toArray, List.set_cons_zero, List.set_cons_succ, Nat.zero_add, Nat.reduceAdd, hpre] at hK ⊢
        have HK := Lib.hid hK
        clear hK
        refine Held.mk ?_
        go_simp
        rw [if_threeN, hg]
        exact HK.out _ (Below.refl _ _)
      -- 5: Op.move (Operand.tmp 12)
      apply ls_val
      · intro x w' hb hpre K hK
        have hc := (bcell hb).1
        simp [preds, Region.binds, phi, MP.val, MP.box, MP.row] at hpre
        simp only [frL, Act.put, List.setIfInBounds_toArray, List.set_cons_zero, List.set_cons_succ, Nat.zero_add, Nat.reduceAdd, hpre] at hK ⊢
        have HK := Lib.hid hK
        clear hK
        refine Held.mk ?_
        go_simp
        exact HK.out _ (Below.refl _ _)
      -- 6: Op.fieldAddr 24 (Operand.tmp 1) 1
      apply ls_val
      · intro x w' hb hpre K hK
        have hc := (bcell hb).1
        simp [preds, Region.binds, phi, MP.val, MP.box, MP.row] at hpre
        simp only [frL, Act.put, List.setIfInBounds_toArray, List.set_cons_zero, List.set_cons_succ, Nat.zero_add, Nat.reduceAdd, hpre] at hK ⊢
        have HK := Lib.hid hK
        clear hK
        refine Held.mk ?_
        go_simp
        exact HK.out _ (Below.refl _ _)
      -- 7: Op.load 3 (Operand.tmp 14)
      apply ls_val
      · intro x w' hb hpre K hK
        have hc := (bcell hb).1
        simp [preds, Region.binds, phi, MP.val, MP.box, MP.row] at hpre
        simp only [frL, Act.put, List.setIfInBounds_toArray, List.set_cons_zero, List.set_cons_succ, Nat.zero_add, Nat.reduceAdd, hpre] at hK ⊢
        have HK := Lib.hid hK
        clear hK
        refine Held.mk ?_
        go_simp
        exact HK.out _ (Below.refl _ _)
      -- 8: Op.binOp BinOp.geq 3 (Operand.tmp 15) (Operand.const (Value.int IntKind.i64 (-999999999999
      apply ls_val
      · intro x w' hb hpre K hK
        have hc := (bcell hb).1
        simp [preds, Region.binds, phi, MP.val, MP.box, MP.row] at hpre
        simp only [frL, Act.put, List.setIfInBounds_toArray, List.set_cons_zero, List.set_cons_succ, Nat.zero_add, Nat.reduceAdd, hpre] at hK ⊢
        have HK := Lib.hid hK
        clear hK
        refine Held.mk ?_
        go_simp
        exact HK.out _ (Below.refl _ _)
      -- 9: Op.pick (Operand.tmp 13) (Operand.tmp 16) (Operand.const (Value.bool false))
      apply ls_val
      · intro x w' hb hpre K hK
        have hc := (bcell hb).1
        simp [preds, Region.binds, phi, MP.val, MP.box, MP.row] at hpre
        simp only [frL, Act.put, List.setIfInBounds_toArray, List.set_cons_zero, List.set_cons_succ, Nat.zero_add, Nat.reduceAdd, hpre] at hK ⊢
        have HK := Lib.hid hK
        clear hK
        refine Held.mk ?_
        go_simp
        exact HK.out _ (Below.refl _ _)
      -- 10: Op.move (Operand.tmp 17)
      apply ls_val
      · intro x w' hb hpre K hK
        have hc := (bcell hb).1
        simp [preds, Region.binds, phi, MP.val, MP.box, MP.row] at hpre
        simp only [frL, Act.put, List.setIfInBounds_toArray, List.set_cons_zero, List.set_cons_succ, Nat.zero_add, Nat.reduceAdd, hpre] at hK ⊢
        have HK := Lib.hid hK
        clear hK
        refine Held.mk ?_
        go_simp
        exact HK.out _ (Below.refl _ _)
      -- 11: Op.fieldAddr 24 (Operand.tmp 1) 1
      apply ls_val
      · intro x w' hb hpre K hK
        have hc := (bcell hb).1
        simp [preds, Region.binds, phi, MP.val, MP.box, MP.row] at hpre
        simp only [frL, Act.put, List.setIfInBounds_toArray, List.set_cons_zero, List.set_cons_succ, Nat.zero_add, Nat.reduceAdd, hpre] at hK ⊢
        have HK := Lib.hid hK
        clear hK
        refine Held.mk ?_
        go_simp
        exact HK.out _ (Below.refl _ _)
      -- 12: Op.load 3 (Operand.tmp 19)
      apply ls_val
      · intro x w' hb hpre K hK
        have hc := (bcell hb).1
        simp [preds, Region.binds, phi, MP.val, MP.box, MP.row] at hpre
        simp only [frL, Act.put, List.setIfInBounds_toArray, List.set_cons_zero, List.set_cons_succ, Nat.zero_add, Nat.reduceAdd, hpre] at hK ⊢
        have HK := Lib.hid hK
        clear hK
        refine Held.mk ?_
        go_simp
        exact HK.out _ (Below.refl _ _)
      -- 13: Op.binOp BinOp.leq 3 (Operand.tmp 20) (Operand.const (Value.int IntKind.i64 99999999999999
      apply ls_val
      · intro x w' hb hpre K hK
        have hc := (bcell hb).1
        simp [preds, Region.binds, phi, MP.val, MP.box, MP.row] at hpre
        simp only [frL, Act.put, List.setIfInBounds_toArray, List.set_cons_zero, List.set_cons_succ, Nat.zero_add, Nat.reduceAdd, hpre] at hK ⊢
        have HK := Lib.hid hK
        clear hK
        refine Held.mk ?_
        go_simp
        exact HK.out _ (Below.refl _ _)
      -- 14: Op.pick (Operand.tmp 18) (Operand.tmp 21) (Operand.const (Value.bool false))
      apply ls_val
      · intro x w' hb hpre K hK
        have hc := (bcell hb).1
        simp [preds, Region.binds, phi, MP.val, MP.box, MP.row] at hpre
        simp only [frL, Act.put, List.setIfInBounds_toArray, List.set_cons_zero, List.set_cons_succ, Nat.zero_add, Nat.reduceAdd, hpre] at hK ⊢
        have HK := Lib.hid hK
        clear hK
        refine Held.mk ?_
        go_simp
        exact HK.out _ (Below.refl _ _)
      -- 15: Op.assign (Operand.tmp 22)
      apply ls_val
      · intro x w' hb hpre K hK
        have hc := (bcell hb).1
        simp [preds, Region.binds, phi, MP.val, MP.box, MP.row] at hpre
        simp only [frL, Act.put, List.setIfInBounds_toArray, List.set_cons_zero, List.set_cons_succ, Nat.zero_add, Nat.reduceAdd, hpre] at hK ⊢
        have HK := Lib.hid hK
        clear hK
        refine Held.mk ?_
        go_simp
        exact HK.out _ (Below.refl _ _)
      intro x w' hb hp
      simp only [List.cons_append, List.nil_append, phis, MP.val, MP.box, MP.row, frL, Act.put, List.setIfInBounds_toArray, List.set_cons_zero, List.set_cons_succ, Nat.zero_add, Nat.reduceAdd] at hp ⊢
      obtain ⟨h0, h1, h2, h3, h4, h5, h6, h7, h8, h9, h10, h11, h12, h13, h14, h15, -⟩ := hp
      simp only [h0, h1, h2, h3, h4, h5, h6, h7, h8, h9, h10, h11, h12, h13, h14, h15]
      clear h0 h1 h2 h3 h4 h5 h6 h7 h8 h9 h10 h11 h12 h13 h14 h15
      show wpList Tryz.prog _ _ [] _ _
      have hw1 := hw0.trans (hb.mono hw0.size)
      clear hb B0 a0 a1 a2 a3 a4 hw0
      go_wp2_with fail
      go_returns
      exact ⟨rfl, hw1⟩

set_option maxRecDepth 100000 in
set_option maxHeartbeats 1000000 in
theorem right_2 (n s : Int) (t : ByteArray) (b : Bool) (w : World) : Calls Tryz.prog 49 #[.agg #[.int .i64 2, .int .i64 n, .int .i64 s, .string t, .bool b]] w fun e w' => e = .returned (.bool (rightA ⟨2, n, s, t, b⟩)) ∧ Below w.heap.size w w' := by
  rw [ra_2]
  have CO := Lib.hid (fun w => number_of_any n s w)
  cases hg : (decide (t.toList = (bs []).toList) && !b)
  ·
    generalize rightF n s = R at *
    go_enter Tryz.func49, Tryz.ntmps49
    go_wp2_with fail
    have B0 : Blk (w.alloc (.cells #[.int .i64 2, .int .i64 n, .int .i64 s, .string t, .bool b] 24)) w.heap.size #[.int .i64 2, .int .i64 n, .int .i64 s, .string t, .bool b] 24 := Blk.here rfl rfl
    have hw0 := (Below.refl w.heap.size w).alloc (Nat.le_refl _) (.cells #[.int .i64 2, .int .i64 n, .int .i64 s, .string t, .bool b] 24)
    have k0 := B0.lt
    obtain ⟨⟨a0, a1, a2, a3, a4⟩, -⟩ := B0.five
    have B1 : Blk ((w.alloc (.cells #[.int .i64 2, .int .i64 n, .int .i64 s, .string t, .bool b] 24)).alloc (.cells #[.int .i64 n, .int .i64 s] 31)) (w.heap.size + 1) #[.int .i64 n, .int .i64 s] 31 := Blk.here rfl (by simp)
    have B0 := B0.alloc (.cells #[.int .i64 n, .int .i64 s] 31)
    have hw0 := hw0.alloc hw0.size (.cells #[.int .i64 n, .int .i64 s] 31)
    clear k0 a0 a1 a2 a3 a4
    have k0 := B0.lt
    have k1 := B1.lt
    obtain ⟨⟨a0, a1, a2, a3, a4⟩, -⟩ := B0.five
    obtain ⟨d0, d1, -⟩ := B1.two
    generalize (w.alloc (.cells #[.int .i64 2, .int .i64 n, .int .i64 s, .string t, .bool b] 24)).alloc (.cells #[.int .i64 n, .int .i64 s] 31) = W at *
    refine region_steps 10 [some 30, some 31, some 32, some 33, some 34, some 35, some 36, some 37, some 38, some 2] (by kernel_rfl) (by kernel_rfl) ?_
    -- 0: Op.load 24 (Operand.tmp 1)
    apply ls_val
    · intro x w' hb hpre K hK
      have hc := (bcell hb).1
      clear hpre
      simp only [frL, Act.put, List.setIfInBounds_toArray, List.set_cons_zero, List.set_cons_succ, Nat.zero_add, Nat.reduceAdd] at hK ⊢
      have HK := Lib.hid hK
      clear hK
      refine Held.mk ?_
      go_simp
      exact HK.out _ (Below.refl _ _)
    -- 1: Op.load 31 (Operand.tmp 3)
    apply ls_val
    · intro x w' hb hpre K hK
      have hc := (bcell hb).1
      clear hpre
      simp only [frL, Act.put, List.setIfInBounds_toArray, List.set_cons_zero, List.set_cons_succ, Nat.zero_add, Nat.reduceAdd] at hK ⊢
      have HK := Lib.hid hK
      clear hK
      refine Held.mk ?_
      go_simp
      exact HK.out _ (Below.refl _ _)
    -- 2: Op.call { callee := Callee.value (Operand.func 24), args := #[Operand.tmp 31], argTypes :=
    apply ls_val
    · intro x w' hb hpre K hK
      have hc := (bcell hb).1
      simp [preds, Region.binds, phi, MP.val, MP.box, MP.row] at hpre
      simp only [frL, Act.put, List.setIfInBounds_toArray, List.set_cons_zero, List.set_cons_succ, Nat.zero_add, Nat.reduceAdd, hpre] at hK ⊢
      have HK := Lib.hid hK
      clear hK
      refine Held.mk ?_
      go_simp
      (with_reducible refine (CO.out _).mono ?_)
      rintro e w1 ⟨rfl, hb1⟩
      dsimp only
      exact HK.out _ hb1
    -- 3: Op.binOp BinOp.eql 24 (Operand.tmp 30) (Operand.tmp 32) 24
    refine ls_val (v := .bool false) ?_ ?_
    · intro x w' hb hpre K hK
      have hc := (bcell hb).1
      simp [preds, Region.binds, phi, MP.val, MP.box, MP.row] at hpre
      simp only [frL, Act.put, List.setIfInBounds_toArray, List.set_cons_zero, List.set_cons_succ, Nat.zero_add, Nat.reduceAdd, hpre] at hK ⊢
      have HK := Lib.hid hK
      clear hK
      refine Held.mk ?_
      go_simp
      rw [if_twoN, hg]
      exact HK.out _ (Below.refl _ _)
    -- 4: Op.move (Operand.tmp 33)
    apply ls_val
    · intro x w' hb hpre K hK
      have hc := (bcell hb).1
      simp [preds, Region.binds, phi, MP.val, MP.box, MP.row] at hpre
      simp only [frL, Act.put, List.setIfInBounds_toArray, List.set_cons_zero, List.set_cons_succ, Nat.zero_add, Nat.reduceAdd, hpre] at hK ⊢
      have HK := Lib.hid hK
      clear hK
      refine Held.mk ?_
      go_simp
      exact HK.out _ (Below.refl _ _)
    -- 5: Op.load 31 (Operand.tmp 3)
    apply ls_val
    · intro x w' hb hpre K hK
      have hc := (bcell hb).1
      simp [preds, Region.binds, phi, MP.val, MP.box, MP.row] at hpre
      simp only [frL, Act.put, List.setIfInBounds_toArray, List.set_cons_zero, List.set_cons_succ, Nat.zero_add, Nat.reduceAdd, hpre] at hK ⊢
      have HK := Lib.hid hK
      clear hK
      refine Held.mk ?_
      go_simp
      exact HK.out _ (Below.refl _ _)
    -- 6: Op.buildSlice 121 1 #[(0, Operand.tmp 35)]
    apply ls_val
    · intro x w' hb hpre K hK
      have hc := (bcell hb).1
      simp [preds, Region.binds, phi, MP.val, MP.box, MP.row] at hpre
      simp only [frL, Act.put, List.setIfInBounds_toArray, List.set_cons_zero, List.set_cons_succ, Nat.zero_add, Nat.reduceAdd, hpre] at hK ⊢
      have HK := Lib.hid hK
      clear hK
      refine Held.mk ?_
      go_simp
      exact HK.out _ (Below.refl _ _)
    -- 7: Op.call { callee := Callee.value (Operand.func 79), args := #[Operand.tmp 36], argTypes :=
    apply ls_val
    · intro x w' hb hpre K hK
      have hc := (bcell hb).1
      simp [preds, Region.binds, phi, MP.val, MP.box, MP.row] at hpre
      simp only [frL, Act.put, List.setIfInBounds_toArray, List.set_cons_zero, List.set_cons_succ, Nat.zero_add, Nat.reduceAdd, hpre] at hK ⊢
      have HK := Lib.hid hK
      clear hK
      refine Held.mk ?_
      go_simp
      exact HK.out _ (Below.refl _ _)
    -- 8: Op.pick (Operand.tmp 34) (Operand.tmp 37) (Operand.const (Value.bool false))
    apply ls_val
    · intro x w' hb hpre K hK
      have hc := (bcell hb).1
      simp [preds, Region.binds, phi, MP.val, MP.box, MP.row] at hpre
      simp only [frL, Act.put, List.setIfInBounds_toArray, List.set_cons_zero, List.set_cons_succ, Nat.zero_add, Nat.reduceAdd, hpre] at hK ⊢
      have HK := Lib.hid hK
      clear hK
      refine Held.mk ?_
      go_simp
      exact HK.out _ (Below.refl _ _)
    -- 9: Op.assign (Operand.tmp 38)
    apply ls_val
    · intro x w' hb hpre K hK
      have hc := (bcell hb).1
      simp [preds, Region.binds, phi, MP.val, MP.box, MP.row] at hpre
      simp only [frL, Act.put, List.setIfInBounds_toArray, List.set_cons_zero, List.set_cons_succ, Nat.zero_add, Nat.reduceAdd, hpre] at hK ⊢
      have HK := Lib.hid hK
      clear hK
      refine Held.mk ?_
      go_simp
      exact HK.out _ (Below.refl _ _)
    intro x w' hb hp
    simp only [List.cons_append, List.nil_append, phis, MP.val, MP.box, MP.row, frL, Act.put, List.setIfInBounds_toArray, List.set_cons_zero, List.set_cons_succ, Nat.zero_add, Nat.reduceAdd] at hp ⊢
    obtain ⟨h0, h1, h2, h3, h4, h5, h6, h7, h8, h9, -⟩ := hp
    simp only [h0, h1, h2, h3, h4, h5, h6, h7, h8, h9]
    clear h0 h1 h2 h3 h4 h5 h6 h7 h8 h9
    show wpList Tryz.prog _ _ [] _ _
    have hw1 := hw0.trans (hb.mono hw0.size)
    clear hb B0 a0 a1 a2 a3 a4 hw0 B1
    go_wp2_with fail
    go_returns
    exact ⟨rfl, hw1⟩
  ·
    have CV := Lib.hid (show ∀ (q : Nat) (w' : World), Blk w' q #[.int .i64 n, .int .i64 s] 31 → Calls Tryz.prog 79 #[.slice (some ⟨q, 0, none⟩) 1 1] w' fun e w'' => e = .returned (.bool ([(n, s)].all fun x => rightF x.1 x.2)) ∧ Below w'.heap.size w' w'' from fun q w' hB => right_any (some ⟨q, 0, none⟩) 1 [(n, s)] w' (.inr ⟨q, rfl, hB.lt, fun j x y hj => by cases j with | zero => (simp at hj; obtain ⟨rfl, rfl⟩ := hj; exact ⟨hB.cell 0, hB.cell 1⟩) | succ j => simp at hj⟩) (by simp))
    have hall : ([(n, s)].all fun x => rightF x.1 x.2) = rightF n s := by simp
    rw [hall] at CV
    clear hall
    generalize rightF n s = R at *
    go_enter Tryz.func49, Tryz.ntmps49
    go_wp2_with fail
    have B0 : Blk (w.alloc (.cells #[.int .i64 2, .int .i64 n, .int .i64 s, .string t, .bool b] 24)) w.heap.size #[.int .i64 2, .int .i64 n, .int .i64 s, .string t, .bool b] 24 := Blk.here rfl rfl
    have hw0 := (Below.refl w.heap.size w).alloc (Nat.le_refl _) (.cells #[.int .i64 2, .int .i64 n, .int .i64 s, .string t, .bool b] 24)
    have k0 := B0.lt
    obtain ⟨⟨a0, a1, a2, a3, a4⟩, -⟩ := B0.five
    have B1 : Blk ((w.alloc (.cells #[.int .i64 2, .int .i64 n, .int .i64 s, .string t, .bool b] 24)).alloc (.cells #[.int .i64 n, .int .i64 s] 31)) (w.heap.size + 1) #[.int .i64 n, .int .i64 s] 31 := Blk.here rfl (by simp)
    have B0 := B0.alloc (.cells #[.int .i64 n, .int .i64 s] 31)
    have hw0 := hw0.alloc hw0.size (.cells #[.int .i64 n, .int .i64 s] 31)
    clear k0 a0 a1 a2 a3 a4
    have k0 := B0.lt
    have k1 := B1.lt
    obtain ⟨⟨a0, a1, a2, a3, a4⟩, -⟩ := B0.five
    obtain ⟨d0, d1, -⟩ := B1.two
    generalize (w.alloc (.cells #[.int .i64 2, .int .i64 n, .int .i64 s, .string t, .bool b] 24)).alloc (.cells #[.int .i64 n, .int .i64 s] 31) = W at *
    refine region_steps 10 [some 30, some 31, some 32, some 33, some 34, some 35, some 36, some 37, some 38, some 2] (by kernel_rfl) (by kernel_rfl) ?_
    -- 0: Op.load 24 (Operand.tmp 1)
    apply ls_val
    · intro x w' hb hpre K hK
      have hc := (bcell hb).1
      clear hpre
      simp only [frL, Act.put, List.setIfInBounds_toArray, List.set_cons_zero, List.set_cons_succ, Nat.zero_add, Nat.reduceAdd] at hK ⊢
      have HK := Lib.hid hK
      clear hK
      refine Held.mk ?_
      go_simp
      exact HK.out _ (Below.refl _ _)
    -- 1: Op.load 31 (Operand.tmp 3)
    apply ls_val
    · intro x w' hb hpre K hK
      have hc := (bcell hb).1
      clear hpre
      simp only [frL, Act.put, List.setIfInBounds_toArray, List.set_cons_zero, List.set_cons_succ, Nat.zero_add, Nat.reduceAdd] at hK ⊢
      have HK := Lib.hid hK
      clear hK
      refine Held.mk ?_
      go_simp
      exact HK.out _ (Below.refl _ _)
    -- 2: Op.call { callee := Callee.value (Operand.func 24), args := #[Operand.tmp 31], argTypes :=
    apply ls_val
    · intro x w' hb hpre K hK
      have hc := (bcell hb).1
      simp [preds, Region.binds, phi, MP.val, MP.box, MP.row] at hpre
      simp only [frL, Act.put, List.setIfInBounds_toArray, List.set_cons_zero, List.set_cons_succ, Nat.zero_add, Nat.reduceAdd, hpre] at hK ⊢
      have HK := Lib.hid hK
      clear hK
      refine Held.mk ?_
      go_simp
      (with_reducible refine (CO.out _).mono ?_)
      rintro e w1 ⟨rfl, hb1⟩
      dsimp only
      exact HK.out _ hb1
    -- 3: Op.binOp BinOp.eql 24 (Operand.tmp 30) (Operand.tmp 32) 24
    refine ls_val (v := .bool true) ?_ ?_
    · intro x w' hb hpre K hK
      have hc := (bcell hb).1
      simp [preds, Region.binds, phi, MP.val, MP.box, MP.row] at hpre
      simp only [frL, Act.put, List.setIfInBounds_toArray, List.set_cons_zero, List.set_cons_succ, Nat.zero_add, Nat.reduceAdd, hpre] at hK ⊢
      have HK := Lib.hid hK
      clear hK
      refine Held.mk ?_
      go_simp
      rw [if_twoN, hg]
      exact HK.out _ (Below.refl _ _)
    -- 4: Op.move (Operand.tmp 33)
    apply ls_val
    · intro x w' hb hpre K hK
      have hc := (bcell hb).1
      simp [preds, Region.binds, phi, MP.val, MP.box, MP.row] at hpre
      simp only [frL, Act.put, List.setIfInBounds_toArray, List.set_cons_zero, List.set_cons_succ, Nat.zero_add, Nat.reduceAdd, hpre] at hK ⊢
      have HK := Lib.hid hK
      clear hK
      refine Held.mk ?_
      go_simp
      exact HK.out _ (Below.refl _ _)
    -- 5: Op.load 31 (Operand.tmp 3)
    apply ls_val
    · intro x w' hb hpre K hK
      have hc := (bcell hb).1
      simp [preds, Region.binds, phi, MP.val, MP.box, MP.row] at hpre
      simp only [frL, Act.put, List.setIfInBounds_toArray, List.set_cons_zero, List.set_cons_succ, Nat.zero_add, Nat.reduceAdd, hpre] at hK ⊢
      have HK := Lib.hid hK
      clear hK
      refine Held.mk ?_
      go_simp
      exact HK.out _ (Below.refl _ _)
    -- 6: Op.buildSlice 121 1 #[(0, Operand.tmp 35)]
    refine ls_gen (.row W.heap.size 1 #[.int .i64 n, .int .i64 s] 31) ?_ ?_
    · intro x w' hb hpre K hK
      have hc := (bcell hb).1
      simp [preds, Region.binds, phi, MP.val, MP.box, MP.row] at hpre
      simp only [frL, Act.put, List.setIfInBounds_toArray, List.set_cons_zero, List.set_cons_succ, Nat.zero_add, Nat.reduceAdd, hpre] at hK ⊢
      have HK := Lib.hid hK
      clear hK
      refine Held.mk ?_
      go_simp
      exact HK.out _ _ ⟨_, rfl, hb.size, Blk.new _ _ _⟩ ((Below.refl _ _).alloc (Nat.le_refl _) _)
    -- 7: Op.call { callee := Callee.value (Operand.func 79), args := #[Operand.tmp 36], argTypes :=
    apply ls_val
    · intro x w' hb hpre K hK
      have hc := (bcell hb).1
      have p6 := hpre.1 rfl
      simp [phi, MP.val, MP.box, MP.row] at p6
      obtain ⟨q6, h6, hq6, hB6⟩ := p6
      have p4 := hpre.2.1 rfl
      simp [phi, MP.val, MP.box, MP.row] at p4
      clear hpre
      simp only [frL, Act.put, List.setIfInBounds_toArray, List.set_cons_zero, List.set_cons_succ, Nat.zero_add, Nat.reduceAdd, h6, p4] at hK ⊢
      have HK := Lib.hid hK
      clear hK
      refine Held.mk ?_
      go_simp
      (with_reducible refine (CV.out q6 w' hB6).mono ?_)
      rintro e w1 ⟨rfl, hb1⟩
      dsimp only
      exact HK.out _ hb1
    -- 8: Op.pick (Operand.tmp 34) (Operand.tmp 37) (Operand.const (Value.bool false))
    apply ls_val
    · intro x w' hb hpre K hK
      have hc := (bcell hb).1
      simp [preds, Region.binds, phi, MP.val, MP.box, MP.row] at hpre
      simp only [frL, Act.put, List.setIfInBounds_toArray, List.set_cons_zero, List.set_cons_succ, Nat.zero_add, Nat.reduceAdd, hpre] at hK ⊢
      have HK := Lib.hid hK
      clear hK
      refine Held.mk ?_
      go_simp
      exact HK.out _ (Below.refl _ _)
    -- 9: Op.assign (Operand.tmp 38)
    apply ls_val
    · intro x w' hb hpre K hK
      have hc := (bcell hb).1
      have p8 := hpre.1 rfl
      simp [phi, MP.val, MP.box, MP.row] at p8
      have p7 := hpre.2.1 rfl
      simp [phi, MP.val, MP.box, MP.row] at p7
      have p0 := hpre.2.2.1 rfl
      simp [phi, MP.val, MP.box, MP.row] at p0
      have p1 := hpre.2.2.2.1 rfl
      simp [phi, MP.val, MP.box, MP.row] at p1
      have p2 := hpre.2.2.2.2.1 rfl
      simp [phi, MP.val, MP.box, MP.row] at p2
      have p3 := hpre.2.2.2.2.2.1 rfl
      simp [phi, MP.val, MP.box, MP.row] at p3
      have p4 := hpre.2.2.2.2.2.2.1 rfl
      simp [phi, MP.val, MP.box, MP.row] at p4
      have p5 := hpre.2.2.2.2.2.2.2.1 rfl
      simp [phi, MP.val, MP.box, MP.row] at p5
      have p6 := hpre.2.2.2.2.2.2.2.2.1 rfl
      simp [phi, MP.val, MP.box, MP.row] at p6
      obtain ⟨q6, h6, hq6, hB6⟩ := p6
      clear hpre
      simp only [frL, Act.put, List.setIfInBounds_toArray, List.set_cons_zero, List.set_cons_succ, Nat.zero_add, Nat.reduceAdd, p8, p7, p0, p1, p2, p3, p4, p5, h6] at hK ⊢
      have HK := Lib.hid hK
      clear hK
      refine Held.mk ?_
      go_simp
      exact HK.out _ (Below.refl _ _)
    intro x w' hb hp
    simp only [List.cons_append, List.nil_append, phis, MP.val, MP.box, MP.row, frL, Act.put, List.setIfInBounds_toArray, List.set_cons_zero, List.set_cons_succ, Nat.zero_add, Nat.reduceAdd] at hp ⊢
    obtain ⟨h0, h1, h2, h3, h4, h5, ⟨q6, h6, hq6, hB6⟩, h7, h8, h9, -⟩ := hp
    simp only [h0, h1, h2, h3, h4, h5, h6, h7, h8, h9]
    clear h0 h1 h2 h3 h4 h5 h6 h7 h8 h9
    show wpList Tryz.prog _ _ [] _ _
    have hw1 := hw0.trans (hb.mono hw0.size)
    clear hb B0 a0 a1 a2 a3 a4 hw0 B1
    go_wp2_with fail
    go_returns
    exact ⟨rfl, hw1⟩

set_option maxRecDepth 100000 in
set_option maxHeartbeats 1000000 in
theorem right_3 (n s : Int) (t : ByteArray) (b : Bool) (hs : t.size ≤ 9223372036854775807) (w : World) (hT0 : U8T w) : Calls Tryz.prog 49 #[.agg #[.int .i64 3, .int .i64 n, .int .i64 s, .string t, .bool b]] w fun e w' => e = .returned (.bool (rightA ⟨3, n, s, t, b⟩)) ∧ Below w.heap.size w w' := by
  rw [ra_3]
  have CO := Lib.hid (fun w => text_any t w)
  cases hg : (decide (n = 0) && (decide (s = 0) && !b))
  ·
    clear hT0
    generalize validF t = R at *
    go_enter Tryz.func49, Tryz.ntmps49
    go_wp2_with fail
    have B0 : Blk (w.alloc (.cells #[.int .i64 3, .int .i64 n, .int .i64 s, .string t, .bool b] 24)) w.heap.size #[.int .i64 3, .int .i64 n, .int .i64 s, .string t, .bool b] 24 := Blk.here rfl rfl
    have hw0 := (Below.refl w.heap.size w).alloc (Nat.le_refl _) (.cells #[.int .i64 3, .int .i64 n, .int .i64 s, .string t, .bool b] 24)
    have k0 := B0.lt
    obtain ⟨⟨a0, a1, a2, a3, a4⟩, -⟩ := B0.five
    generalize w.alloc (.cells #[.int .i64 3, .int .i64 n, .int .i64 s, .string t, .bool b] 24) = W at *
    refine region_steps 12 [some 41, some 42, some 43, some 44, some 45, some 46, some 47, some 48, some 49, some 50, some 51, some 2] (by kernel_rfl) (by kernel_rfl) ?_
    -- 0: Op.load 24 (Operand.tmp 1)
    apply ls_val
    · intro x w' hb hpre K hK
      have hc := (bcell hb).1
      clear hpre
      simp only [frL, Act.put, List.setIfInBounds_toArray, List.set_cons_zero, List.set_cons_succ, Nat.zero_add, Nat.reduceAdd] at hK ⊢
      have HK := Lib.hid hK
      clear hK
      refine Held.mk ?_
      go_simp
      exact HK.out _ (Below.refl _ _)
    -- 1: Op.fieldAddr 24 (Operand.tmp 1) 3
    apply ls_val
    · intro x w' hb hpre K hK
      have hc := (bcell hb).1
      clear hpre
      simp only [frL, Act.put, List.setIfInBounds_toArray, List.set_cons_zero, List.set_cons_succ, Nat.zero_add, Nat.reduceAdd] at hK ⊢
      have HK := Lib.hid hK
      clear hK
      refine Held.mk ?_
      go_simp
      exact HK.out _ (Below.refl _ _)
    -- 2: Op.load 9 (Operand.tmp 42)
    apply ls_val
    · intro x w' hb hpre K hK
      have hc := (bcell hb).1
      simp [preds, Region.binds, phi, MP.val, MP.box, MP.row] at hpre
      simp only [frL, Act.put, List.setIfInBounds_toArray, List.set_cons_zero, List.set_cons_succ, Nat.zero_add, Nat.reduceAdd, hpre] at hK ⊢
      have HK := Lib.hid hK
      clear hK
      refine Held.mk ?_
      go_simp
      exact HK.out _ (Below.refl _ _)
    -- 3: Op.call { callee := Callee.value (Operand.func 21), args := #[Operand.tmp 43], argTypes :=
    apply ls_val
    · intro x w' hb hpre K hK
      have hc := (bcell hb).1
      simp [preds, Region.binds, phi, MP.val, MP.box, MP.row] at hpre
      simp only [frL, Act.put, List.setIfInBounds_toArray, List.set_cons_zero, List.set_cons_succ, Nat.zero_add, Nat.reduceAdd, hpre] at hK ⊢
      have HK := Lib.hid hK
      clear hK
      refine Held.mk ?_
      go_simp
      (with_reducible refine (CO.out _).mono ?_)
      rintro e w1 ⟨rfl, hb1⟩
      dsimp only
      exact HK.out _ hb1
    -- 4: Op.binOp BinOp.eql 24 (Operand.tmp 41) (Operand.tmp 44) 24
    refine ls_val (v := .bool false) ?_ ?_
    · intro x w' hb hpre K hK
      have hc := (bcell hb).1
      simp [preds, Region.binds, phi, MP.val, MP.box, MP.row] at hpre
      simp only [frL, Act.put, List.setIfInBounds_toArray, List.set_cons_zero, List.set_cons_succ, Nat.zero_add, Nat.reduceAdd, hpre] at hK ⊢
      have HK := Lib.hid hK
      clear hK
      refine Held.mk ?_
      go_simp
      rw [if_threeN, hg]
      exact HK.out _ (Below.refl _ _)
    -- 5: Op.move (Operand.tmp 45)
    apply ls_val
    · intro x w' hb hpre K hK
      have hc := (bcell hb).1
      simp [preds, Region.binds, phi, MP.val, MP.box, MP.row] at hpre
      simp only [frL, Act.put, List.setIfInBounds_toArray, List.set_cons_zero, List.set_cons_succ, Nat.zero_add, Nat.reduceAdd, hpre] at hK ⊢
      have HK := Lib.hid hK
      clear hK
      refine Held.mk ?_
      go_simp
      exact HK.out _ (Below.refl _ _)
    -- 6: Op.fieldAddr 24 (Operand.tmp 1) 3
    apply ls_val
    · intro x w' hb hpre K hK
      have hc := (bcell hb).1
      simp [preds, Region.binds, phi, MP.val, MP.box, MP.row] at hpre
      simp only [frL, Act.put, List.setIfInBounds_toArray, List.set_cons_zero, List.set_cons_succ, Nat.zero_add, Nat.reduceAdd, hpre] at hK ⊢
      have HK := Lib.hid hK
      clear hK
      refine Held.mk ?_
      go_simp
      exact HK.out _ (Below.refl _ _)
    -- 7: Op.load 9 (Operand.tmp 47)
    apply ls_val
    · intro x w' hb hpre K hK
      have hc := (bcell hb).1
      simp [preds, Region.binds, phi, MP.val, MP.box, MP.row] at hpre
      simp only [frL, Act.put, List.setIfInBounds_toArray, List.set_cons_zero, List.set_cons_succ, Nat.zero_add, Nat.reduceAdd, hpre] at hK ⊢
      have HK := Lib.hid hK
      clear hK
      refine Held.mk ?_
      go_simp
      exact HK.out _ (Below.refl _ _)
    -- 8: Op.buildSlice 122 1 #[(0, Operand.tmp 48)]
    apply ls_val
    · intro x w' hb hpre K hK
      have hc := (bcell hb).1
      simp [preds, Region.binds, phi, MP.val, MP.box, MP.row] at hpre
      simp only [frL, Act.put, List.setIfInBounds_toArray, List.set_cons_zero, List.set_cons_succ, Nat.zero_add, Nat.reduceAdd, hpre] at hK ⊢
      have HK := Lib.hid hK
      clear hK
      refine Held.mk ?_
      go_simp
      exact HK.out _ (Below.refl _ _)
    -- 9: Op.call { callee := Callee.value (Operand.func 80), args := #[Operand.tmp 49], argTypes :=
    apply ls_val
    · intro x w' hb hpre K hK
      have hc := (bcell hb).1
      simp [preds, Region.binds, phi, MP.val, MP.box, MP.row] at hpre
      simp only [frL, Act.put, List.setIfInBounds_toArray, List.set_cons_zero, List.set_cons_succ, Nat.zero_add, Nat.reduceAdd, hpre] at hK ⊢
      have HK := Lib.hid hK
      clear hK
      refine Held.mk ?_
      go_simp
      exact HK.out _ (Below.refl _ _)
    -- 10: Op.pick (Operand.tmp 46) (Operand.tmp 50) (Operand.const (Value.bool false))
    apply ls_val
    · intro x w' hb hpre K hK
      have hc := (bcell hb).1
      simp [preds, Region.binds, phi, MP.val, MP.box, MP.row] at hpre
      simp only [frL, Act.put, List.setIfInBounds_toArray, List.set_cons_zero, List.set_cons_succ, Nat.zero_add, Nat.reduceAdd, hpre] at hK ⊢
      have HK := Lib.hid hK
      clear hK
      refine Held.mk ?_
      go_simp
      exact HK.out _ (Below.refl _ _)
    -- 11: Op.assign (Operand.tmp 51)
    apply ls_val
    · intro x w' hb hpre K hK
      have hc := (bcell hb).1
      simp [preds, Region.binds, phi, MP.val, MP.box, MP.row] at hpre
      simp only [frL, Act.put, List.setIfInBounds_toArray, List.set_cons_zero, List.set_cons_succ, Nat.zero_add, Nat.reduceAdd, hpre] at hK ⊢
      have HK := Lib.hid hK
      clear hK
      refine Held.mk ?_
      go_simp
      exact HK.out _ (Below.refl _ _)
    intro x w' hb hp
    simp only [List.cons_append, List.nil_append, phis, MP.val, MP.box, MP.row, frL, Act.put, List.setIfInBounds_toArray, List.set_cons_zero, List.set_cons_succ, Nat.zero_add, Nat.reduceAdd] at hp ⊢
    obtain ⟨h0, h1, h2, h3, h4, h5, h6, h7, h8, h9, h10, h11, -⟩ := hp
    simp only [h0, h1, h2, h3, h4, h5, h6, h7, h8, h9, h10, h11]
    clear h0 h1 h2 h3 h4 h5 h6 h7 h8 h9 h10 h11
    show wpList Tryz.prog _ _ [] _ _
    have hw1 := hw0.trans (hb.mono hw0.size)
    clear hb B0 a0 a1 a2 a3 a4 hw0
    go_wp2_with fail
    go_returns
    exact ⟨rfl, hw1⟩
  ·
    have CV := Lib.hid (fun q (w' : World) (hw : Below w.heap.size w w') (hB : Blk w' q #[.string t] 9) => cvalid_one t hs w' (u8_on hT0 hw) q (hB.cell 0))
    clear hT0
    generalize validF t = R at *
    go_enter Tryz.func49, Tryz.ntmps49
    go_wp2_with fail
    have B0 : Blk (w.alloc (.cells #[.int .i64 3, .int .i64 n, .int .i64 s, .string t, .bool b] 24)) w.heap.size #[.int .i64 3, .int .i64 n, .int .i64 s, .string t, .bool b] 24 := Blk.here rfl rfl
    have hw0 := (Below.refl w.heap.size w).alloc (Nat.le_refl _) (.cells #[.int .i64 3, .int .i64 n, .int .i64 s, .string t, .bool b] 24)
    have k0 := B0.lt
    obtain ⟨⟨a0, a1, a2, a3, a4⟩, -⟩ := B0.five
    generalize w.alloc (.cells #[.int .i64 3, .int .i64 n, .int .i64 s, .string t, .bool b] 24) = W at *
    refine region_steps 12 [some 41, some 42, some 43, some 44, some 45, some 46, some 47, some 48, some 49, some 50, some 51, some 2] (by kernel_rfl) (by kernel_rfl) ?_
    -- 0: Op.load 24 (Operand.tmp 1)
    apply ls_val
    · intro x w' hb hpre K hK
      have hc := (bcell hb).1
      clear hpre
      simp only [frL, Act.put, List.setIfInBounds_toArray, List.set_cons_zero, List.set_cons_succ, Nat.zero_add, Nat.reduceAdd] at hK ⊢
      have HK := Lib.hid hK
      clear hK
      refine Held.mk ?_
      go_simp
      exact HK.out _ (Below.refl _ _)
    -- 1: Op.fieldAddr 24 (Operand.tmp 1) 3
    apply ls_val
    · intro x w' hb hpre K hK
      have hc := (bcell hb).1
      clear hpre
      simp only [frL, Act.put, List.setIfInBounds_toArray, List.set_cons_zero, List.set_cons_succ, Nat.zero_add, Nat.reduceAdd] at hK ⊢
      have HK := Lib.hid hK
      clear hK
      refine Held.mk ?_
      go_simp
      exact HK.out _ (Below.refl _ _)
    -- 2: Op.load 9 (Operand.tmp 42)
    apply ls_val
    · intro x w' hb hpre K hK
      have hc := (bcell hb).1
      simp [preds, Region.binds, phi, MP.val, MP.box, MP.row] at hpre
      simp only [frL, Act.put, List.setIfInBounds_toArray, List.set_cons_zero, List.set_cons_succ, Nat.zero_add, Nat.reduceAdd, hpre] at hK ⊢
      have HK := Lib.hid hK
      clear hK
      refine Held.mk ?_
      go_simp
      exact HK.out _ (Below.refl _ _)
    -- 3: Op.call { callee := Callee.value (Operand.func 21), args := #[Operand.tmp 43], argTypes :=
    apply ls_val
    · intro x w' hb hpre K hK
      have hc := (bcell hb).1
      simp [preds, Region.binds, phi, MP.val, MP.box, MP.row] at hpre
      simp only [frL, Act.put, List.setIfInBounds_toArray, List.set_cons_zero, List.set_cons_succ, Nat.zero_add, Nat.reduceAdd, hpre] at hK ⊢
      have HK := Lib.hid hK
      clear hK
      refine Held.mk ?_
      go_simp
      (with_reducible refine (CO.out _).mono ?_)
      rintro e w1 ⟨rfl, hb1⟩
      dsimp only
      exact HK.out _ hb1
    -- 4: Op.binOp BinOp.eql 24 (Operand.tmp 41) (Operand.tmp 44) 24
    refine ls_val (v := .bool true) ?_ ?_
    · intro x w' hb hpre K hK
      have hc := (bcell hb).1
      simp [preds, Region.binds, phi, MP.val, MP.box, MP.row] at hpre
      simp only [frL, Act.put, List.setIfInBounds_toArray, List.set_cons_zero, List.set_cons_succ, Nat.zero_add, Nat.reduceAdd, hpre] at hK ⊢
      have HK := Lib.hid hK
      clear hK
      refine Held.mk ?_
      go_simp
      rw [if_threeN, hg]
      exact HK.out _ (Below.refl _ _)
    -- 5: Op.move (Operand.tmp 45)
    apply ls_val
    · intro x w' hb hpre K hK
      have hc := (bcell hb).1
      simp [preds, Region.binds, phi, MP.val, MP.box, MP.row] at hpre
      simp only [frL, Act.put, List.setIfInBounds_toArray, List.set_cons_zero, List.set_cons_succ, Nat.zero_add, Nat.reduceAdd, hpre] at hK ⊢
      have HK := Lib.hid hK
      clear hK
      refine Held.mk ?_
      go_simp
      exact HK.out _ (Below.refl _ _)
    -- 6: Op.fieldAddr 24 (Operand.tmp 1) 3
    apply ls_val
    · intro x w' hb hpre K hK
      have hc := (bcell hb).1
      simp [preds, Region.binds, phi, MP.val, MP.box, MP.row] at hpre
      simp only [frL, Act.put, List.setIfInBounds_toArray, List.set_cons_zero, List.set_cons_succ, Nat.zero_add, Nat.reduceAdd, hpre] at hK ⊢
      have HK := Lib.hid hK
      clear hK
      refine Held.mk ?_
      go_simp
      exact HK.out _ (Below.refl _ _)
    -- 7: Op.load 9 (Operand.tmp 47)
    apply ls_val
    · intro x w' hb hpre K hK
      have hc := (bcell hb).1
      simp [preds, Region.binds, phi, MP.val, MP.box, MP.row] at hpre
      simp only [frL, Act.put, List.setIfInBounds_toArray, List.set_cons_zero, List.set_cons_succ, Nat.zero_add, Nat.reduceAdd, hpre] at hK ⊢
      have HK := Lib.hid hK
      clear hK
      refine Held.mk ?_
      go_simp
      exact HK.out _ (Below.refl _ _)
    -- 8: Op.buildSlice 122 1 #[(0, Operand.tmp 48)]
    refine ls_gen (.row W.heap.size 1 #[.string t] 9) ?_ ?_
    · intro x w' hb hpre K hK
      have hc := (bcell hb).1
      simp [preds, Region.binds, phi, MP.val, MP.box, MP.row] at hpre
      simp only [frL, Act.put, List.setIfInBounds_toArray, List.set_cons_zero, List.set_cons_succ, Nat.zero_add, Nat.reduceAdd, hpre] at hK ⊢
      have HK := Lib.hid hK
      clear hK
      refine Held.mk ?_
      go_simp
      exact HK.out _ _ ⟨_, rfl, hb.size, Blk.new _ _ _⟩ ((Below.refl _ _).alloc (Nat.le_refl _) _)
    -- 9: Op.call { callee := Callee.value (Operand.func 80), args := #[Operand.tmp 49], argTypes :=
    apply ls_val
    · intro x w' hb hpre K hK
      have hc := (bcell hb).1
      have p8 := hpre.1 rfl
      simp [phi, MP.val, MP.box, MP.row] at p8
      obtain ⟨q8, h8, hq8, hB8⟩ := p8
      have p5 := hpre.2.1 rfl
      simp [phi, MP.val, MP.box, MP.row] at p5
      clear hpre
      simp only [frL, Act.put, List.setIfInBounds_toArray, List.set_cons_zero, List.set_cons_succ, Nat.zero_add, Nat.reduceAdd, h8, p5] at hK ⊢
      have HK := Lib.hid hK
      clear hK
      refine Held.mk ?_
      go_simp
      (with_reducible refine (CV.out q8 w' (hw0.trans (hb.mono hw0.size)) hB8).mono ?_)
      rintro e w1 ⟨rfl, hb1⟩
      dsimp only
      exact HK.out _ hb1
    -- 10: Op.pick (Operand.tmp 46) (Operand.tmp 50) (Operand.const (Value.bool false))
    apply ls_val
    · intro x w' hb hpre K hK
      have hc := (bcell hb).1
      simp [preds, Region.binds, phi, MP.val, MP.box, MP.row] at hpre
      simp only [frL, Act.put, List.setIfInBounds_toArray, List.set_cons_zero, List.set_cons_succ, Nat.zero_add, Nat.reduceAdd, hpre] at hK ⊢
      have HK := Lib.hid hK
      clear hK
      refine Held.mk ?_
      go_simp
      exact HK.out _ (Below.refl _ _)
    -- 11: Op.assign (Operand.tmp 51)
    apply ls_val
    · intro x w' hb hpre K hK
      have hc := (bcell hb).1
      have p10 := hpre.1 rfl
      simp [phi, MP.val, MP.box, MP.row] at p10
      have p9 := hpre.2.1 rfl
      simp [phi, MP.val, MP.box, MP.row] at p9
      have p0 := hpre.2.2.1 rfl
      simp [phi, MP.val, MP.box, MP.row] at p0
      have p1 := hpre.2.2.2.1 rfl
      simp [phi, MP.val, MP.box, MP.row] at p1
      have p2 := hpre.2.2.2.2.1 rfl
      simp [phi, MP.val, MP.box, MP.row] at p2
      have p3 := hpre.2.2.2.2.2.1 rfl
      simp [phi, MP.val, MP.box, MP.row] at p3
      have p4 := hpre.2.2.2.2.2.2.1 rfl
      simp [phi, MP.val, MP.box, MP.row] at p4
      have p5 := hpre.2.2.2.2.2.2.2.1 rfl
      simp [phi, MP.val, MP.box, MP.row] at p5
      have p6 := hpre.2.2.2.2.2.2.2.2.1 rfl
      simp [phi, MP.val, MP.box, MP.row] at p6
      have p7 := hpre.2.2.2.2.2.2.2.2.2.1 rfl
      simp [phi, MP.val, MP.box, MP.row] at p7
      have p8 := hpre.2.2.2.2.2.2.2.2.2.2.1 rfl
      simp [phi, MP.val, MP.box, MP.row] at p8
      obtain ⟨q8, h8, hq8, hB8⟩ := p8
      clear hpre
      simp only [frL, Act.put, List.setIfInBounds_toArray, List.set_cons_zero, List.set_cons_succ, Nat.zero_add, Nat.reduceAdd, p10, p9, p0, p1, p2, p3, p4, p5, p6, p7, h8] at hK ⊢
      have HK := Lib.hid hK
      clear hK
      refine Held.mk ?_
      go_simp
      exact HK.out _ (Below.refl _ _)
    intro x w' hb hp
    simp only [List.cons_append, List.nil_append, phis, MP.val, MP.box, MP.row, frL, Act.put, List.setIfInBounds_toArray, List.set_cons_zero, List.set_cons_succ, Nat.zero_add, Nat.reduceAdd] at hp ⊢
    obtain ⟨h0, h1, h2, h3, h4, h5, h6, h7, ⟨q8, h8, hq8, hB8⟩, h9, h10, h11, -⟩ := hp
    simp only [h0, h1, h2, h3, h4, h5, h6, h7, h8, h9, h10, h11]
    clear h0 h1 h2 h3 h4 h5 h6 h7 h8 h9 h10 h11
    show wpList Tryz.prog _ _ [] _ _
    have hw1 := hw0.trans (hb.mono hw0.size)
    clear hb B0 a0 a1 a2 a3 a4 hw0
    go_wp2_with fail
    go_returns
    exact ⟨rfl, hw1⟩

set_option maxRecDepth 100000 in
set_option maxHeartbeats 1000000 in
theorem right_5 (n s : Int) (t : ByteArray) (b : Bool) (hs : t.size ≤ 9223372036854775807) (w : World) (hT0 : U8T w) : Calls Tryz.prog 49 #[.agg #[.int .i64 5, .int .i64 n, .int .i64 s, .string t, .bool b]] w fun e w' => e = .returned (.bool (rightA ⟨5, n, s, t, b⟩)) ∧ Below w.heap.size w w' := by
  rw [ra_5]
  have CO := Lib.hid (fun w => raw_any t w)
  cases hg : (decide (n = 0) && (decide (s = 0) && !b))
  ·
    clear hT0
    generalize validF t = R at *
    go_enter Tryz.func49, Tryz.ntmps49
    go_wp2_with fail
    have B0 : Blk (w.alloc (.cells #[.int .i64 5, .int .i64 n, .int .i64 s, .string t, .bool b] 24)) w.heap.size #[.int .i64 5, .int .i64 n, .int .i64 s, .string t, .bool b] 24 := Blk.here rfl rfl
    have hw0 := (Below.refl w.heap.size w).alloc (Nat.le_refl _) (.cells #[.int .i64 5, .int .i64 n, .int .i64 s, .string t, .bool b] 24)
    have k0 := B0.lt
    obtain ⟨⟨a0, a1, a2, a3, a4⟩, -⟩ := B0.five
    generalize w.alloc (.cells #[.int .i64 5, .int .i64 n, .int .i64 s, .string t, .bool b] 24) = W at *
    refine region_steps 12 [some 54, some 55, some 56, some 57, some 58, some 59, some 60, some 61, some 62, some 63, some 64, some 2] (by kernel_rfl) (by kernel_rfl) ?_
    -- 0: Op.load 24 (Operand.tmp 1)
    apply ls_val
    · intro x w' hb hpre K hK
      have hc := (bcell hb).1
      clear hpre
      simp only [frL, Act.put, List.setIfInBounds_toArray, List.set_cons_zero, List.set_cons_succ, Nat.zero_add, Nat.reduceAdd] at hK ⊢
      have HK := Lib.hid hK
      clear hK
      refine Held.mk ?_
      go_simp
      exact HK.out _ (Below.refl _ _)
    -- 1: Op.fieldAddr 24 (Operand.tmp 1) 3
    apply ls_val
    · intro x w' hb hpre K hK
      have hc := (bcell hb).1
      clear hpre
      simp only [frL, Act.put, List.setIfInBounds_toArray, List.set_cons_zero, List.set_cons_succ, Nat.zero_add, Nat.reduceAdd] at hK ⊢
      have HK := Lib.hid hK
      clear hK
      refine Held.mk ?_
      go_simp
      exact HK.out _ (Below.refl _ _)
    -- 2: Op.load 9 (Operand.tmp 55)
    apply ls_val
    · intro x w' hb hpre K hK
      have hc := (bcell hb).1
      simp [preds, Region.binds, phi, MP.val, MP.box, MP.row] at hpre
      simp only [frL, Act.put, List.setIfInBounds_toArray, List.set_cons_zero, List.set_cons_succ, Nat.zero_add, Nat.reduceAdd, hpre] at hK ⊢
      have HK := Lib.hid hK
      clear hK
      refine Held.mk ?_
      go_simp
      exact HK.out _ (Below.refl _ _)
    -- 3: Op.call { callee := Callee.value (Operand.func 22), args := #[Operand.tmp 56], argTypes :=
    apply ls_val
    · intro x w' hb hpre K hK
      have hc := (bcell hb).1
      simp [preds, Region.binds, phi, MP.val, MP.box, MP.row] at hpre
      simp only [frL, Act.put, List.setIfInBounds_toArray, List.set_cons_zero, List.set_cons_succ, Nat.zero_add, Nat.reduceAdd, hpre] at hK ⊢
      have HK := Lib.hid hK
      clear hK
      refine Held.mk ?_
      go_simp
      (with_reducible refine (CO.out _).mono ?_)
      rintro e w1 ⟨rfl, hb1⟩
      dsimp only
      exact HK.out _ hb1
    -- 4: Op.binOp BinOp.eql 24 (Operand.tmp 54) (Operand.tmp 57) 24
    refine ls_val (v := .bool false) ?_ ?_
    · intro x w' hb hpre K hK
      have hc := (bcell hb).1
      simp [preds, Region.binds, phi, MP.val, MP.box, MP.row] at hpre
      simp only [frL, Act.put, List.setIfInBounds_toArray, List.set_cons_zero, List.set_cons_succ, Nat.zero_add, Nat.reduceAdd, hpre] at hK ⊢
      have HK := Lib.hid hK
      clear hK
      refine Held.mk ?_
      go_simp
      rw [if_threeN, hg]
      exact HK.out _ (Below.refl _ _)
    -- 5: Op.move (Operand.tmp 58)
    apply ls_val
    · intro x w' hb hpre K hK
      have hc := (bcell hb).1
      simp [preds, Region.binds, phi, MP.val, MP.box, MP.row] at hpre
      simp only [frL, Act.put, List.setIfInBounds_toArray, List.set_cons_zero, List.set_cons_succ, Nat.zero_add, Nat.reduceAdd, hpre] at hK ⊢
      have HK := Lib.hid hK
      clear hK
      refine Held.mk ?_
      go_simp
      exact HK.out _ (Below.refl _ _)
    -- 6: Op.fieldAddr 24 (Operand.tmp 1) 3
    apply ls_val
    · intro x w' hb hpre K hK
      have hc := (bcell hb).1
      simp [preds, Region.binds, phi, MP.val, MP.box, MP.row] at hpre
      simp only [frL, Act.put, List.setIfInBounds_toArray, List.set_cons_zero, List.set_cons_succ, Nat.zero_add, Nat.reduceAdd, hpre] at hK ⊢
      have HK := Lib.hid hK
      clear hK
      refine Held.mk ?_
      go_simp
      exact HK.out _ (Below.refl _ _)
    -- 7: Op.load 9 (Operand.tmp 60)
    apply ls_val
    · intro x w' hb hpre K hK
      have hc := (bcell hb).1
      simp [preds, Region.binds, phi, MP.val, MP.box, MP.row] at hpre
      simp only [frL, Act.put, List.setIfInBounds_toArray, List.set_cons_zero, List.set_cons_succ, Nat.zero_add, Nat.reduceAdd, hpre] at hK ⊢
      have HK := Lib.hid hK
      clear hK
      refine Held.mk ?_
      go_simp
      exact HK.out _ (Below.refl _ _)
    -- 8: Op.buildSlice 122 1 #[(0, Operand.tmp 61)]
    apply ls_val
    · intro x w' hb hpre K hK
      have hc := (bcell hb).1
      simp [preds, Region.binds, phi, MP.val, MP.box, MP.row] at hpre
      simp only [frL, Act.put, List.setIfInBounds_toArray, List.set_cons_zero, List.set_cons_succ, Nat.zero_add, Nat.reduceAdd, hpre] at hK ⊢
      have HK := Lib.hid hK
      clear hK
      refine Held.mk ?_
      go_simp
      exact HK.out _ (Below.refl _ _)
    -- 9: Op.call { callee := Callee.value (Operand.func 80), args := #[Operand.tmp 62], argTypes :=
    apply ls_val
    · intro x w' hb hpre K hK
      have hc := (bcell hb).1
      simp [preds, Region.binds, phi, MP.val, MP.box, MP.row] at hpre
      simp only [frL, Act.put, List.setIfInBounds_toArray, List.set_cons_zero, List.set_cons_succ, Nat.zero_add, Nat.reduceAdd, hpre] at hK ⊢
      have HK := Lib.hid hK
      clear hK
      refine Held.mk ?_
      go_simp
      exact HK.out _ (Below.refl _ _)
    -- 10: Op.pick (Operand.tmp 59) (Operand.tmp 63) (Operand.const (Value.bool false))
    apply ls_val
    · intro x w' hb hpre K hK
      have hc := (bcell hb).1
      simp [preds, Region.binds, phi, MP.val, MP.box, MP.row] at hpre
      simp only [frL, Act.put, List.setIfInBounds_toArray, List.set_cons_zero, List.set_cons_succ, Nat.zero_add, Nat.reduceAdd, hpre] at hK ⊢
      have HK := Lib.hid hK
      clear hK
      refine Held.mk ?_
      go_simp
      exact HK.out _ (Below.refl _ _)
    -- 11: Op.assign (Operand.tmp 64)
    apply ls_val
    · intro x w' hb hpre K hK
      have hc := (bcell hb).1
      simp [preds, Region.binds, phi, MP.val, MP.box, MP.row] at hpre
      simp only [frL, Act.put, List.setIfInBounds_toArray, List.set_cons_zero, List.set_cons_succ, Nat.zero_add, Nat.reduceAdd, hpre] at hK ⊢
      have HK := Lib.hid hK
      clear hK
      refine Held.mk ?_
      go_simp
      exact HK.out _ (Below.refl _ _)
    intro x w' hb hp
    simp only [List.cons_append, List.nil_append, phis, MP.val, MP.box, MP.row, frL, Act.put, List.setIfInBounds_toArray, List.set_cons_zero, List.set_cons_succ, Nat.zero_add, Nat.reduceAdd] at hp ⊢
    obtain ⟨h0, h1, h2, h3, h4, h5, h6, h7, h8, h9, h10, h11, -⟩ := hp
    simp only [h0, h1, h2, h3, h4, h5, h6, h7, h8, h9, h10, h11]
    clear h0 h1 h2 h3 h4 h5 h6 h7 h8 h9 h10 h11
    show wpList Tryz.prog _ _ [] _ _
    have hw1 := hw0.trans (hb.mono hw0.size)
    clear hb B0 a0 a1 a2 a3 a4 hw0
    go_wp2_with fail
    go_returns
    exact ⟨rfl, hw1⟩
  ·
    have CV := Lib.hid (fun q (w' : World) (hw : Below w.heap.size w w') (hB : Blk w' q #[.string t] 9) => cvalid_one t hs w' (u8_on hT0 hw) q (hB.cell 0))
    clear hT0
    generalize validF t = R at *
    go_enter Tryz.func49, Tryz.ntmps49
    go_wp2_with fail
    have B0 : Blk (w.alloc (.cells #[.int .i64 5, .int .i64 n, .int .i64 s, .string t, .bool b] 24)) w.heap.size #[.int .i64 5, .int .i64 n, .int .i64 s, .string t, .bool b] 24 := Blk.here rfl rfl
    have hw0 := (Below.refl w.heap.size w).alloc (Nat.le_refl _) (.cells #[.int .i64 5, .int .i64 n, .int .i64 s, .string t, .bool b] 24)
    have k0 := B0.lt
    obtain ⟨⟨a0, a1, a2, a3, a4⟩, -⟩ := B0.five
    generalize w.alloc (.cells #[.int .i64 5, .int .i64 n, .int .i64 s, .string t, .bool b] 24) = W at *
    refine region_steps 12 [some 54, some 55, some 56, some 57, some 58, some 59, some 60, some 61, some 62, some 63, some 64, some 2] (by kernel_rfl) (by kernel_rfl) ?_
    -- 0: Op.load 24 (Operand.tmp 1)
    apply ls_val
    · intro x w' hb hpre K hK
      have hc := (bcell hb).1
      clear hpre
      simp only [frL, Act.put, List.setIfInBounds_toArray, List.set_cons_zero, List.set_cons_succ, Nat.zero_add, Nat.reduceAdd] at hK ⊢
      have HK := Lib.hid hK
      clear hK
      refine Held.mk ?_
      go_simp
      exact HK.out _ (Below.refl _ _)
    -- 1: Op.fieldAddr 24 (Operand.tmp 1) 3
    apply ls_val
    · intro x w' hb hpre K hK
      have hc := (bcell hb).1
      clear hpre
      simp only [frL, Act.put, List.setIfInBounds_toArray, List.set_cons_zero, List.set_cons_succ, Nat.zero_add, Nat.reduceAdd] at hK ⊢
      have HK := Lib.hid hK
      clear hK
      refine Held.mk ?_
      go_simp
      exact HK.out _ (Below.refl _ _)
    -- 2: Op.load 9 (Operand.tmp 55)
    apply ls_val
    · intro x w' hb hpre K hK
      have hc := (bcell hb).1
      simp [preds, Region.binds, phi, MP.val, MP.box, MP.row] at hpre
      simp only [frL, Act.put, List.setIfInBounds_toArray, List.set_cons_zero, List.set_cons_succ, Nat.zero_add, Nat.reduceAdd, hpre] at hK ⊢
      have HK := Lib.hid hK
      clear hK
      refine Held.mk ?_
      go_simp
      exact HK.out _ (Below.refl _ _)
    -- 3: Op.call { callee := Callee.value (Operand.func 22), args := #[Operand.tmp 56], argTypes :=
    apply ls_val
    · intro x w' hb hpre K hK
      have hc := (bcell hb).1
      simp [preds, Region.binds, phi, MP.val, MP.box, MP.row] at hpre
      simp only [frL, Act.put, List.setIfInBounds_toArray, List.set_cons_zero, List.set_cons_succ, Nat.zero_add, Nat.reduceAdd, hpre] at hK ⊢
      have HK := Lib.hid hK
      clear hK
      refine Held.mk ?_
      go_simp
      (with_reducible refine (CO.out _).mono ?_)
      rintro e w1 ⟨rfl, hb1⟩
      dsimp only
      exact HK.out _ hb1
    -- 4: Op.binOp BinOp.eql 24 (Operand.tmp 54) (Operand.tmp 57) 24
    refine ls_val (v := .bool true) ?_ ?_
    · intro x w' hb hpre K hK
      have hc := (bcell hb).1
      simp [preds, Region.binds, phi, MP.val, MP.box, MP.row] at hpre
      simp only [frL, Act.put, List.setIfInBounds_toArray, List.set_cons_zero, List.set_cons_succ, Nat.zero_add, Nat.reduceAdd, hpre] at hK ⊢
      have HK := Lib.hid hK
      clear hK
      refine Held.mk ?_
      go_simp
      rw [if_threeN, hg]
      exact HK.out _ (Below.refl _ _)
    -- 5: Op.move (Operand.tmp 58)
    apply ls_val
    · intro x w' hb hpre K hK
      have hc := (bcell hb).1
      simp [preds, Region.binds, phi, MP.val, MP.box, MP.row] at hpre
      simp only [frL, Act.put, List.setIfInBounds_toArray, List.set_cons_zero, List.set_cons_succ, Nat.zero_add, Nat.reduceAdd, hpre] at hK ⊢
      have HK := Lib.hid hK
      clear hK
      refine Held.mk ?_
      go_simp
      exact HK.out _ (Below.refl _ _)
    -- 6: Op.fieldAddr 24 (Operand.tmp 1) 3
    apply ls_val
    · intro x w' hb hpre K hK
      have hc := (bcell hb).1
      simp [preds, Region.binds, phi, MP.val, MP.box, MP.row] at hpre
      simp only [frL, Act.put, List.setIfInBounds_toArray, List.set_cons_zero, List.set_cons_succ, Nat.zero_add, Nat.reduceAdd, hpre] at hK ⊢
      have HK := Lib.hid hK
      clear hK
      refine Held.mk ?_
      go_simp
      exact HK.out _ (Below.refl _ _)
    -- 7: Op.load 9 (Operand.tmp 60)
    apply ls_val
    · intro x w' hb hpre K hK
      have hc := (bcell hb).1
      simp [preds, Region.binds, phi, MP.val, MP.box, MP.row] at hpre
      simp only [frL, Act.put, List.setIfInBounds_toArray, List.set_cons_zero, List.set_cons_succ, Nat.zero_add, Nat.reduceAdd, hpre] at hK ⊢
      have HK := Lib.hid hK
      clear hK
      refine Held.mk ?_
      go_simp
      exact HK.out _ (Below.refl _ _)
    -- 8: Op.buildSlice 122 1 #[(0, Operand.tmp 61)]
    refine ls_gen (.row W.heap.size 1 #[.string t] 9) ?_ ?_
    · intro x w' hb hpre K hK
      have hc := (bcell hb).1
      simp [preds, Region.binds, phi, MP.val, MP.box, MP.row] at hpre
      simp only [frL, Act.put, List.setIfInBounds_toArray, List.set_cons_zero, List.set_cons_succ, Nat.zero_add, Nat.reduceAdd, hpre] at hK ⊢
      have HK := Lib.hid hK
      clear hK
      refine Held.mk ?_
      go_simp
      exact HK.out _ _ ⟨_, rfl, hb.size, Blk.new _ _ _⟩ ((Below.refl _ _).alloc (Nat.le_refl _) _)
    -- 9: Op.call { callee := Callee.value (Operand.func 80), args := #[Operand.tmp 62], argTypes :=
    apply ls_val
    · intro x w' hb hpre K hK
      have hc := (bcell hb).1
      have p8 := hpre.1 rfl
      simp [phi, MP.val, MP.box, MP.row] at p8
      obtain ⟨q8, h8, hq8, hB8⟩ := p8
      have p5 := hpre.2.1 rfl
      simp [phi, MP.val, MP.box, MP.row] at p5
      clear hpre
      simp only [frL, Act.put, List.setIfInBounds_toArray, List.set_cons_zero, List.set_cons_succ, Nat.zero_add, Nat.reduceAdd, h8, p5] at hK ⊢
      have HK := Lib.hid hK
      clear hK
      refine Held.mk ?_
      go_simp
      (with_reducible refine (CV.out q8 w' (hw0.trans (hb.mono hw0.size)) hB8).mono ?_)
      rintro e w1 ⟨rfl, hb1⟩
      dsimp only
      exact HK.out _ hb1
    -- 10: Op.pick (Operand.tmp 59) (Operand.tmp 63) (Operand.const (Value.bool false))
    apply ls_val
    · intro x w' hb hpre K hK
      have hc := (bcell hb).1
      simp [preds, Region.binds, phi, MP.val, MP.box, MP.row] at hpre
      simp only [frL, Act.put, List.setIfInBounds_toArray, List.set_cons_zero, List.set_cons_succ, Nat.zero_add, Nat.reduceAdd, hpre] at hK ⊢
      have HK := Lib.hid hK
      clear hK
      refine Held.mk ?_
      go_simp
      exact HK.out _ (Below.refl _ _)
    -- 11: Op.assign (Operand.tmp 64)
    apply ls_val
    · intro x w' hb hpre K hK
      have hc := (bcell hb).1
      have p10 := hpre.1 rfl
      simp [phi, MP.val, MP.box, MP.row] at p10
      have p9 := hpre.2.1 rfl
      simp [phi, MP.val, MP.box, MP.row] at p9
      have p0 := hpre.2.2.1 rfl
      simp [phi, MP.val, MP.box, MP.row] at p0
      have p1 := hpre.2.2.2.1 rfl
      simp [phi, MP.val, MP.box, MP.row] at p1
      have p2 := hpre.2.2.2.2.1 rfl
      simp [phi, MP.val, MP.box, MP.row] at p2
      have p3 := hpre.2.2.2.2.2.1 rfl
      simp [phi, MP.val, MP.box, MP.row] at p3
      have p4 := hpre.2.2.2.2.2.2.1 rfl
      simp [phi, MP.val, MP.box, MP.row] at p4
      have p5 := hpre.2.2.2.2.2.2.2.1 rfl
      simp [phi, MP.val, MP.box, MP.row] at p5
      have p6 := hpre.2.2.2.2.2.2.2.2.1 rfl
      simp [phi, MP.val, MP.box, MP.row] at p6
      have p7 := hpre.2.2.2.2.2.2.2.2.2.1 rfl
      simp [phi, MP.val, MP.box, MP.row] at p7
      have p8 := hpre.2.2.2.2.2.2.2.2.2.2.1 rfl
      simp [phi, MP.val, MP.box, MP.row] at p8
      obtain ⟨q8, h8, hq8, hB8⟩ := p8
      clear hpre
      simp only [frL, Act.put, List.setIfInBounds_toArray, List.set_cons_zero, List.set_cons_succ, Nat.zero_add, Nat.reduceAdd, p10, p9, p0, p1, p2, p3, p4, p5, p6, p7, h8] at hK ⊢
      have HK := Lib.hid hK
      clear hK
      refine Held.mk ?_
      go_simp
      exact HK.out _ (Below.refl _ _)
    intro x w' hb hp
    simp only [List.cons_append, List.nil_append, phis, MP.val, MP.box, MP.row, frL, Act.put, List.setIfInBounds_toArray, List.set_cons_zero, List.set_cons_succ, Nat.zero_add, Nat.reduceAdd] at hp ⊢
    obtain ⟨h0, h1, h2, h3, h4, h5, h6, h7, ⟨q8, h8, hq8, hB8⟩, h9, h10, h11, -⟩ := hp
    simp only [h0, h1, h2, h3, h4, h5, h6, h7, h8, h9, h10, h11]
    clear h0 h1 h2 h3 h4 h5 h6 h7 h8 h9 h10 h11
    show wpList Tryz.prog _ _ [] _ _
    have hw1 := hw0.trans (hb.mono hw0.size)
    clear hb B0 a0 a1 a2 a3 a4 hw0
    go_wp2_with fail
    go_returns
    exact ⟨rfl, hw1⟩

theorem right_k (k n s : Int) (t : ByteArray) (b : Bool) (h1 : (k == 1) = false) (h2 : (k == 2) = false) (h3 : (k == 3) = false) (h4 : (k == 4) = false) (h5 : (k == 5) = false) (w : World) : Calls Tryz.prog 49 #[.agg #[.int .i64 k, .int .i64 n, .int .i64 s, .string t, .bool b]] w fun e w' => e = .returned (.bool (rightA ⟨k, n, s, t, b⟩)) ∧ Below w.heap.size w w' := by
  rw [ra_k k n s t b h1 h2 h3 h4 h5]
  go_enter Tryz.func49, Tryz.ntmps49
  go_wp2_with fail
  go_returns
  exact ⟨rfl, by go_grown⟩
theorem aright1_any (k n s : Int) (t : ByteArray) (b : Bool) (hs : t.size ≤ 9223372036854775807) (w : World) (hT : U8T w) : Calls Tryz.prog 49 #[.agg #[.int .i64 k, .int .i64 n, .int .i64 s, .string t, .bool b]] w fun e w' => e = .returned (.bool (rightA ⟨k, n, s, t, b⟩)) ∧ Below w.heap.size w w' := by
  cases h1 : (k == 1)
  · cases h2 : (k == 2)
    · cases h3 : (k == 3)
      · cases h4 : (k == 4)
        · cases h5 : (k == 5)
          · exact right_k k n s t b h1 h2 h3 h4 h5 w
          · obtain rfl : k = 5 := by simpa using h5
            exact right_5 n s t b hs w hT
        · obtain rfl : k = 4 := by simpa using h4
          exact right_4 n s t b w
      · obtain rfl : k = 3 := by simpa using h3
        exact right_3 n s t b hs w hT
    · obtain rfl : k = 2 := by simpa using h2
      exact right_2 n s t b w
  · obtain rfl : k = 1 := by simpa using h1
    exact right_1 n s t b w
end Go.Proofs.YtaoobajokhcimaaGreatDoor

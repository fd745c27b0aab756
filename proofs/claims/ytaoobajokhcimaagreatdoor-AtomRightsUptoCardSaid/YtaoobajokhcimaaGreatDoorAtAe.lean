/- AtomRights' walk. -/
import Derived.Test.YtaoobajokhcimaaGreatDoorAtAb
import Derived.Test.YtaoobajokhcimaaGreatDoorAtS
import Derived.Deep.RegionHeld3
import Derived.Lib.QuietBelow
import Derived.BigQuiet
set_option linter.unusedSimpArgs false
set_option linter.unusedVariables false
set_option linter.constructorNameAsVariable false
namespace Go.Proofs.YtaoobajokhcimaaGreatDoor
open Go.RowKit Go.Sort

theorem num_RA {a : At} (h : RA a) : numN a = (a.n, a.s) := by
  cases h <;> rfl

set_option maxRecDepth 100000 in
set_option maxHeartbeats 8000000 in
theorem rights_walk (k n s : Int) (t : ByteArray) (b : Bool) (ht : t.size ≤ 1100000) (m : Int) (w : World) (hL : LaidU m w) : Calls Tryz.prog 5 #[.agg #[.int .i64 k, .int .i64 n, .int .i64 s, .string t, .bool b]] w fun e w' => e = .returned (.bool true) ∧ Below w.heap.size w w' := by
  have CA := Lib.hid (fun w' (hb : Below w.heap.size w w') => awake_any m w' (hL.base.on hb))
  have CR := Lib.hid (fun w => rright_any k n s t b (by omega) w)
  have CX := Lib.hid (show ∀ (q : Nat) (w' : World), Below w.heap.size w w' → Blk w' q #[.int .i64 k, .int .i64 n, .int .i64 s, .string t, .bool b] 24 → Calls Tryz.prog 18 #[.slice (some ⟨q, 0, none⟩) 1 1] w' fun e w'' => e = .returned (.bool (rightA ⟨k, n, s, t, b⟩)) ∧ Below w'.heap.size w' w'' from fun q w' hb hB => by
    have h := aright_any (some ⟨q, 0, none⟩) 1 [⟨k, n, s, t, b⟩] w' (TRow.one hB) (by simp) (fun x hx => by simp at hx; subst hx; show t.size ≤ _; omega) (u8_on hL.u8 hb)
    rw [show [(⟨k, n, s, t, b⟩ : At)].all rightA = rightA ⟨k, n, s, t, b⟩ from by simp] at h
    exact h)
  have CY := Lib.hid (show ∀ (q : Nat) (w' : World), Below w.heap.size w w' → Blk w' q #[.int .i64 1, .int .i64 1, .int .i64 0, .string ⟨#[]⟩, .bool false, .int .i64 k, .int .i64 n, .int .i64 s, .string t, .bool b] 24 → Calls Tryz.prog 18 #[.slice (some ⟨q, 0, none⟩) 2 2] w' fun e w'' => e = .returned (.bool (rightA ⟨k, n, s, t, b⟩)) ∧ Below w'.heap.size w' w'' from fun q w' hb hB => by
    have h := aright_any (some ⟨q, 0, none⟩) 2 [ofA 1, ⟨k, n, s, t, b⟩] w' (TRow.pair hB) (by simp) (fun x hx => by simp at hx; rcases hx with rfl | rfl <;> first | (show (bs []).size ≤ _; rw [bs_size]; simp; done) | (show t.size ≤ _; omega)) (u8_on hL.u8 hb)
    rw [show [ofA 1, (⟨k, n, s, t, b⟩ : At)].all rightA = rightA ⟨k, n, s, t, b⟩ from by simp [show rightA (ofA 1) = true by decide +kernel]] at h
    exact h)
  have CO1 := Lib.hid (show ∀ w', Calls Tryz.prog 19 #[.int .i64 1] w' fun e w'' => e = .returned (.agg #[.int .i64 1, .int .i64 1, .int .i64 0, .string ⟨#[]⟩, .bool false]) ∧ Below w'.heap.size w' w'' from fun w' => of_any 1 w')
  have CN := Lib.hid (fun w => numeric_any k n s t b w)
  cases hr : rightA ⟨k, n, s, t, b⟩
  · rw [hr] at CR CX CY
    clear hr ht hL
    cases e1 : (k == 1)
    all_goals cases e2 : (k == 2)
    all_goals try rw [e1, e2] at CN
    all_goals skip
    all_goals
      go_enter Tryz.func5, Tryz.ntmps5
      go_wp2_with (first
        | (go_at_call 12; with_reducible refine (CA.out _ (by go_grown)).mono ?_; rintro e w1 ⟨rfl, hb⟩
           have B0' : Blk w1 w.heap.size #[.int .i64 k, .int .i64 n, .int .i64 s, .string t, .bool b] 24 := (Blk.here rfl (by simp)).below hb (by simp <;> omega)
           have hw1 : Below w.heap.size w w1 := Below.trans (by go_grown) (hb.mono (by simp <;> omega))
           have B0 := B0'
           have kB0 : w.heap.size < w1.heap.size := B0.lt
           obtain ⟨B00, B01, B02, B03, B04⟩ := B0.five.1
           clear B0'
           clear hb)
        | (go_at_call 13; with_reducible refine (CR.out _).mono ?_; rintro e w2 ⟨rfl, hb⟩
           have B0' := B0.below hb B0.lt
           have hw2 : Below w.heap.size w w2 := hw1.trans (hb.mono hw1.size)
           clear B0 kB0 B00 B01 B02 B03 B04
           have B0 := B0'
           have kB0 : w.heap.size < w2.heap.size := B0.lt
           obtain ⟨B00, B01, B02, B03, B04⟩ := B0.five.1
           clear B0'
           clear hb))
      refine region_steps 26 [some 9, some 10, some 11, some 12, some 13, some 14, some 15, some 16, some 17, some 18, some 19, some 20, some 21, some 22, some 23, some 24, some 25, some 26, some 27, some 28, some 29, some 30, some 31, some 32, some 33, some 34] (by kernel_rfl) (by kernel_rfl) ?_
      -- 0: Op.load 24 (Operand.tmp 1)
      apply ls_val
      · intro x w' hb hpre K hK
        have hc := (bcell hb).1
        clear hpre
        simp only [frL, Act.put, List.setIfInBounds_toArray, List.set_cons_zero, List.set_cons_succ, Nat.zero_add, Nat.reduceAdd] at hK ⊢
        have HK := Lib.hid hK
        clear hK
        refine Held.mk ?_
        go_simp
        exact HK.out _ (Below.refl _ _)
      -- 1: Op.buildSlice 46 1 #[(0, Operand.tmp 9)]
      refine ls_gen (.row w2.heap.size 1 #[.int .i64 k, .int .i64 n, .int .i64 s, .string t, .bool b] 24) ?_ ?_
      · intro x w' hb hpre K hK
        have hc := (bcell hb).1
        simp [preds, Region.binds, phi, MP.val, MP.box, MP.row] at hpre
        simp only [frL, Act.put, List.setIfInBounds_toArray, List.set_cons_zero, List.set_cons_succ, Nat.zero_add, Nat.reduceAdd, hpre] at hK ⊢
        have HK := Lib.hid hK
        clear hK
        refine Held.mk ?_
        go_simp
        exact HK.out _ _ ⟨_, rfl, hb.size, Blk.new _ _ _⟩ ((Below.refl _ _).alloc (Nat.le_refl _) _)
      -- 2: Op.call { callee := Callee.value (Operand.func 18), args := #[Operand.tmp 10], argTypes :=
      apply ls_val
      · intro x w' hb hpre K hK
        have hc := (bcell hb).1
        have p1 := hpre.1 rfl
        simp [phi, MP.val, MP.box, MP.row] at p1
        obtain ⟨q1, h1, hq1, hB1⟩ := p1
        clear hpre
        simp only [frL, Act.put, List.setIfInBounds_toArray, List.set_cons_zero, List.set_cons_succ, Nat.zero_add, Nat.reduceAdd, h1] at hK ⊢
        have HK := Lib.hid hK
        clear hK
        refine Held.mk ?_
        go_simp
        (with_reducible refine (CX.out q1 w' (hw2.trans (hb.mono hw2.size)) hB1).mono ?_)
        rintro e w1 ⟨rfl, hb1⟩
        dsimp only
        exact HK.out _ hb1
      -- 3: Op.move (Operand.tmp 3)
      apply ls_val
      · intro x w' hb hpre K hK
        have hc := (bcell hb).1
        clear hpre
        simp only [frL, Act.put, List.setIfInBounds_toArray, List.set_cons_zero, List.set_cons_succ, Nat.zero_add, Nat.reduceAdd] at hK ⊢
        have HK := Lib.hid hK
        clear hK
        refine Held.mk ?_
        go_simp
        exact HK.out _ (Below.refl _ _)
      -- 4: Op.binOp BinOp.neq 4 (Operand.tmp 11) (Operand.tmp 12) 4
      apply ls_val
      · intro x w' hb hpre K hK
        have hc := (bcell hb).1
        simp [preds, Region.binds, phi, MP.val, MP.box, MP.row] at hpre
        simp only [frL, Act.put, List.setIfInBounds_toArray, List.set_cons_zero, List.set_cons_succ, Nat.zero_add, Nat.reduceAdd, hpre] at hK ⊢
        have HK := Lib.hid hK
        clear hK
        refine Held.mk ?_
        go_simp
        exact HK.out _ (Below.refl _ _)
      -- 5: Op.move (Operand.tmp 13)
      apply ls_val
      · intro x w' hb hpre K hK
        have hc := (bcell hb).1
        simp [preds, Region.binds, phi, MP.val, MP.box, MP.row] at hpre
        simp only [frL, Act.put, List.setIfInBounds_toArray, List.set_cons_zero, List.set_cons_succ, Nat.zero_add, Nat.reduceAdd, hpre] at hK ⊢
        have HK := Lib.hid hK
        clear hK
        refine Held.mk ?_
        go_simp
        exact HK.out _ (Below.refl _ _)
      -- 6: Op.call { callee := Callee.value (Operand.func 19), args := #[Operand.const (Value.int Int
      apply ls_val
      · intro x w' hb hpre K hK
        have hc := (bcell hb).1
        simp [preds, Region.binds, phi, MP.val, MP.box, MP.row] at hpre
        simp only [frL, Act.put, List.setIfInBounds_toArray, List.set_cons_zero, List.set_cons_succ, Nat.zero_add, Nat.reduceAdd, hpre] at hK ⊢
        have HK := Lib.hid hK
        clear hK
        refine Held.mk ?_
        go_simp
        (with_reducible refine (CO1.out _).mono ?_)
        rintro e w1 ⟨rfl, hb1⟩
        dsimp only
        exact HK.out _ hb1
      -- 7: Op.load 24 (Operand.tmp 1)
      apply ls_val
      · intro x w' hb hpre K hK
        have hc := (bcell hb).1
        simp [preds, Region.binds, phi, MP.val, MP.box, MP.row] at hpre
        simp only [frL, Act.put, List.setIfInBounds_toArray, List.set_cons_zero, List.set_cons_succ, Nat.zero_add, Nat.reduceAdd, hpre] at hK ⊢
        have HK := Lib.hid hK
        clear hK
        refine Held.mk ?_
        go_simp
        exact HK.out _ (Below.refl _ _)
      -- 8: Op.buildSlice 46 2 #[(0, Operand.tmp 15), (1, Operand.tmp 16)]
      refine ls_gen (.row w2.heap.size 2 #[.int .i64 1, .int .i64 1, .int .i64 0, .string ⟨#[]⟩, .bool false, .int .i64 k, .int .i64 n, .int .i64 s, .string t, .bool b] 24) ?_ ?_
      · intro x w' hb hpre K hK
        have hc := (bcell hb).1
        simp [preds, Region.binds, phi, MP.val, MP.box, MP.row] at hpre
        simp only [frL, Act.put, List.setIfInBounds_toArray, List.set_cons_zero, List.set_cons_succ, Nat.zero_add, Nat.reduceAdd, hpre] at hK ⊢
        have HK := Lib.hid hK
        clear hK
        refine Held.mk ?_
        go_simp
        exact HK.out _ _ ⟨_, rfl, hb.size, Blk.new _ _ _⟩ ((Below.refl _ _).alloc (Nat.le_refl _) _)
      -- 9: Op.call { callee := Callee.value (Operand.func 18), args := #[Operand.tmp 17], argTypes :=
      apply ls_val
      · intro x w' hb hpre K hK
        have hc := (bcell hb).1
        have p8 := hpre.1 rfl
        simp [phi, MP.val, MP.box, MP.row] at p8
        obtain ⟨q8, h8, hq8, hB8⟩ := p8
        have p6 := hpre.2.1 rfl
        simp [phi, MP.val, MP.box, MP.row] at p6
        have p5 := hpre.2.2.1 rfl
        simp [phi, MP.val, MP.box, MP.row] at p5
        clear hpre
        simp only [frL, Act.put, List.setIfInBounds_toArray, List.set_cons_zero, List.set_cons_succ, Nat.zero_add, Nat.reduceAdd, h8, p6, p5] at hK ⊢
        have HK := Lib.hid hK
        clear hK
        refine Held.mk ?_
        go_simp
        (with_reducible refine (CY.out q8 w' (hw2.trans (hb.mono hw2.size)) hB8).mono ?_)
        rintro e w1 ⟨rfl, hb1⟩
        dsimp only
        exact HK.out _ hb1
      -- 10: Op.move (Operand.tmp 3)
      apply ls_val
      · intro x w' hb hpre K hK
        have hc := (bcell hb).1
        simp [preds, Region.binds, phi, MP.val, MP.box, MP.row] at hpre
        simp only [frL, Act.put, List.setIfInBounds_toArray, List.set_cons_zero, List.set_cons_succ, Nat.zero_add, Nat.reduceAdd, hpre] at hK ⊢
        have HK := Lib.hid hK
        clear hK
        refine Held.mk ?_
        go_simp
        exact HK.out _ (Below.refl _ _)
      -- 11: Op.binOp BinOp.neq 4 (Operand.tmp 18) (Operand.tmp 19) 4
      apply ls_val
      · intro x w' hb hpre K hK
        have hc := (bcell hb).1
        simp [preds, Region.binds, phi, MP.val, MP.box, MP.row] at hpre
        simp only [frL, Act.put, List.setIfInBounds_toArray, List.set_cons_zero, List.set_cons_succ, Nat.zero_add, Nat.reduceAdd, hpre] at hK ⊢
        have HK := Lib.hid hK
        clear hK
        refine Held.mk ?_
        go_simp
        exact HK.out _ (Below.refl _ _)
      -- 12: Op.pick (Operand.tmp 14) (Operand.const (Value.bool true)) (Operand.tmp 20)
      apply ls_val
      · intro x w' hb hpre K hK
        have hc := (bcell hb).1
        simp [preds, Region.binds, phi, MP.val, MP.box, MP.row] at hpre
        simp only [frL, Act.put, List.setIfInBounds_toArray, List.set_cons_zero, List.set_cons_succ, Nat.zero_add, Nat.reduceAdd, hpre] at hK ⊢
        have HK := Lib.hid hK
        clear hK
        refine Held.mk ?_
        go_simp
        exact HK.out _ (Below.refl _ _)
      -- 13: Op.move (Operand.tmp 21)
      apply ls_val
      · intro x w' hb hpre K hK
        have hc := (bcell hb).1
        simp [preds, Region.binds, phi, MP.val, MP.box, MP.row] at hpre
        simp only [frL, Act.put, List.setIfInBounds_toArray, List.set_cons_zero, List.set_cons_succ, Nat.zero_add, Nat.reduceAdd, hpre] at hK ⊢
        have HK := Lib.hid hK
        clear hK
        refine Held.mk ?_
        go_simp
        exact HK.out _ (Below.refl _ _)
      -- 14: Op.load 24 (Operand.tmp 1)
      apply ls_val
      · intro x w' hb hpre K hK
        have hc := (bcell hb).1
        simp [preds, Region.binds, phi, MP.val, MP.box, MP.row] at hpre
        simp only [frL, Act.put, List.setIfInBounds_toArray, List.set_cons_zero, List.set_cons_succ, Nat.zero_add, Nat.reduceAdd, hpre] at hK ⊢
        have HK := Lib.hid hK
        clear hK
        refine Held.mk ?_
        go_simp
        exact HK.out _ (Below.refl _ _)
      -- 15: Op.call { callee := Callee.value (Operand.func 20), args := #[Operand.tmp 23], argTypes :=
      apply ls_val
      · intro x w' hb hpre K hK
        have hc := (bcell hb).1
        simp [preds, Region.binds, phi, MP.val, MP.box, MP.row] at hpre
        simp only [frL, Act.put, List.setIfInBounds_toArray, List.set_cons_zero, List.set_cons_succ, Nat.zero_add, Nat.reduceAdd, hpre] at hK ⊢
        have HK := Lib.hid hK
        clear hK
        refine Held.mk ?_
        go_simp
        (with_reducible refine (CN.out _).mono ?_)
        rintro e w1 ⟨rfl, hb1⟩
        dsimp only
        exact HK.out _ hb1
      -- 16: Op.fieldAddr 24 (Operand.tmp 1) 0
      apply ls_val
      · intro x w' hb hpre K hK
        have hc := (bcell hb).1
        simp [preds, Region.binds, phi, MP.val, MP.box, MP.row] at hpre
        simp only [frL, Act.put, List.setIfInBounds_toArray, List.set_cons_zero, List.set_cons_succ, Nat.zero_add, Nat.reduceAdd, hpre] at hK ⊢
        have HK := Lib.hid hK
        clear hK
        refine Held.mk ?_
        go_simp
        exact HK.out _ (Below.refl _ _)
      -- 17: Op.load 22 (Operand.tmp 25)
      apply ls_val
      · intro x w' hb hpre K hK
        have hc := (bcell hb).1
        simp [preds, Region.binds, phi, MP.val, MP.box, MP.row] at hpre
        simp only [frL, Act.put, List.setIfInBounds_toArray, List.set_cons_zero, List.set_cons_succ, Nat.zero_add, Nat.reduceAdd, hpre] at hK ⊢
        have HK := Lib.hid hK
        clear hK
        refine Held.mk ?_
        go_simp
        exact HK.out _ (Below.refl _ _)
      -- 18: Op.binOp BinOp.eql 22 (Operand.tmp 26) (Operand.const (Value.int IntKind.i64 1)) 22
      apply ls_val
      · intro x w' hb hpre K hK
        have hc := (bcell hb).1
        simp [preds, Region.binds, phi, MP.val, MP.box, MP.row] at hpre
        simp only [frL, Act.put, List.setIfInBounds_toArray, List.set_cons_zero, List.set_cons_succ, Nat.zero_add, Nat.reduceAdd, hpre] at hK ⊢
        have HK := Lib.hid hK
        clear hK
        refine Held.mk ?_
        go_simp
        exact HK.out _ (Below.refl _ _)
      -- 19: Op.move (Operand.tmp 27)
      apply ls_val
      · intro x w' hb hpre K hK
        have hc := (bcell hb).1
        simp [preds, Region.binds, phi, MP.val, MP.box, MP.row] at hpre
        simp only [frL, Act.put, List.setIfInBounds_toArray, List.set_cons_zero, List.set_cons_succ, Nat.zero_add, Nat.reduceAdd, hpre] at hK ⊢
        have HK := Lib.hid hK
        clear hK
        refine Held.mk ?_
        go_simp
        exact HK.out _ (Below.refl _ _)
      -- 20: Op.fieldAddr 24 (Operand.tmp 1) 0
      apply ls_val
      · intro x w' hb hpre K hK
        have hc := (bcell hb).1
        simp [preds, Region.binds, phi, MP.val, MP.box, MP.row] at hpre
        simp only [frL, Act.put, List.setIfInBounds_toArray, List.set_cons_zero, List.set_cons_succ, Nat.zero_add, Nat.reduceAdd, hpre] at hK ⊢
        have HK := Lib.hid hK
        clear hK
        refine Held.mk ?_
        go_simp
        exact HK.out _ (Below.refl _ _)
      -- 21: Op.load 22 (Operand.tmp 29)
      apply ls_val
      · intro x w' hb hpre K hK
        have hc := (bcell hb).1
        simp [preds, Region.binds, phi, MP.val, MP.box, MP.row] at hpre
        simp only [frL, Act.put, List.setIfInBounds_toArray, List.set_cons_zero, List.set_cons_succ, Nat.zero_add, Nat.reduceAdd, hpre] at hK ⊢
        have HK := Lib.hid hK
        clear hK
        refine Held.mk ?_
        go_simp
        exact HK.out _ (Below.refl _ _)
      -- 22: Op.binOp BinOp.eql 22 (Operand.tmp 30) (Operand.const (Value.int IntKind.i64 2)) 22
      apply ls_val
      · intro x w' hb hpre K hK
        have hc := (bcell hb).1
        simp [preds, Region.binds, phi, MP.val, MP.box, MP.row] at hpre
        simp only [frL, Act.put, List.setIfInBounds_toArray, List.set_cons_zero, List.set_cons_succ, Nat.zero_add, Nat.reduceAdd, hpre] at hK ⊢
        have HK := Lib.hid hK
        clear hK
        refine Held.mk ?_
        go_simp
        exact HK.out _ (Below.refl _ _)
      -- 23: Op.pick (Operand.tmp 28) (Operand.const (Value.bool true)) (Operand.tmp 31)
      apply ls_val
      · intro x w' hb hpre K hK
        have hc := (bcell hb).1
        simp [preds, Region.binds, phi, MP.val, MP.box, MP.row] at hpre
        simp only [frL, Act.put, List.setIfInBounds_toArray, List.set_cons_zero, List.set_cons_succ, Nat.zero_add, Nat.reduceAdd, hpre] at hK ⊢
        have HK := Lib.hid hK
        clear hK
        refine Held.mk ?_
        go_simp
        exact HK.out _ (Below.refl _ _)
      -- 24: Op.binOp BinOp.neq 4 (Operand.tmp 24) (Operand.tmp 32) 4
      apply ls_val
      · intro x w' hb hpre K hK
        have hc := (bcell hb).1
        simp [preds, Region.binds, phi, MP.val, MP.box, MP.row] at hpre
        simp only [frL, Act.put, List.setIfInBounds_toArray, List.set_cons_zero, List.set_cons_succ, Nat.zero_add, Nat.reduceAdd, hpre] at hK ⊢
        have HK := Lib.hid hK
        clear hK
        refine Held.mk ?_
        go_simp
        exact HK.out _ (Below.refl _ _)
      -- 25: Op.pick (Operand.tmp 22) (Operand.const (Value.bool true)) (Operand.tmp 33)
      apply ls_val
      · intro x w' hb hpre K hK
        have hc := (bcell hb).1
        simp [preds, Region.binds, phi, MP.val, MP.box, MP.row] at hpre
        simp only [frL, Act.put, List.setIfInBounds_toArray, List.set_cons_zero, List.set_cons_succ, Nat.zero_add, Nat.reduceAdd, hpre] at hK ⊢
        have HK := Lib.hid hK
        clear hK
        refine Held.mk ?_
        go_simp
        exact HK.out _ (Below.refl _ _)
      intro x w' hb hp
      simp only [List.cons_append, List.nil_append, phis, MP.val, MP.box, MP.row, frL, Act.put, List.setIfInBounds_toArray, List.set_cons_zero, List.set_cons_succ, Nat.zero_add, Nat.reduceAdd] at hp ⊢
      obtain ⟨h0, ⟨q1, h1, hq1, hB1⟩, h2, h3, h4, h5, h6, h7, ⟨q8, h8, hq8, hB8⟩, h9, h10, h11, h12, h13, h14, h15, h16, h17, h18, h19, h20, h21, h22, h23, h24, h25, -⟩ := hp
      simp only [h0, h1, h2, h3, h4, h5, h6, h7, h8, h9, h10, h11, h12, h13, h14, h15, h16, h17, h18, h19, h20, h21, h22, h23, h24, h25]
      clear h0 h1 h2 h3 h4 h5 h6 h7 h8 h9 h10 h11 h12 h13 h14 h15 h16 h17 h18 h19 h20 h21 h22 h23 h24 h25
      show wpList Tryz.prog _ _ [] _ _
      have hw3 := hw2.trans (hb.mono hw2.size)
      have B0' := B0.below hb B0.lt
      clear B0 kB0 B00 B01 B02 B03 B04 hb hw2 hq1 hB1 hq8 hB8 CX CY CO1 CN CA CR
      have B0 := B0'
      clear B0'
      have kB0 := B0.lt
      obtain ⟨⟨B00, B01, B02, B03, B04⟩, -⟩ := B0.five
      go_wp2_with fail
      refine bodyPost_ret (v := .bool true) (by simp [results, Tryz.results5, go_sem]) rfl ⟨rfl, hw3⟩
  · have hR := rightA_RA hr
    rw [hr] at CR CX CY
    have MT := Lib.hid (show ∀ w', Calls Tryz.prog 21 #[.string t] w' fun e w'' => e = .returned (.agg #[.int .i64 3, .int .i64 0, .int .i64 0, .string t, .bool false]) ∧ Below w'.heap.size w' w'' from fun w' => text_any t w')
    have MR := Lib.hid (show ∀ w', Calls Tryz.prog 22 #[.string t] w' fun e w'' => e = .returned (.agg #[.int .i64 5, .int .i64 0, .int .i64 0, .string t, .bool false]) ∧ Below w'.heap.size w' w'' from fun w' => raw_any t w')
    have MO := Lib.hid (show ∀ w', Calls Tryz.prog 19 #[.int .i64 n] w' fun e w'' => e = .returned (.agg #[.int .i64 1, .int .i64 n, .int .i64 0, .string ⟨#[]⟩, .bool false]) ∧ Below w'.heap.size w' w'' from fun w' => of_any n w')
    have MB := Lib.hid (show ∀ w', Calls Tryz.prog 23 #[.bool b] w' fun e w'' => e = .returned (.agg #[.int .i64 4, .int .i64 0, .int .i64 0, .string ⟨#[]⟩, .bool b]) ∧ Below w'.heap.size w' w'' from fun w' => truth_any b w')
    have MN := Lib.hid (show ∀ w', Calls Tryz.prog 24 #[.agg #[.int .i64 n, .int .i64 s]] w' fun e w'' => e = .returned (.agg #[.int .i64 2, .int .i64 n, .int .i64 s, .string ⟨#[]⟩, .bool false]) ∧ Below w'.heap.size w' w'' from fun w' => number_of_any n s w')
    have CS := Lib.hid (show ∀ w', Below w.heap.size w w' → Calls Tryz.prog 25 #[.agg #[.int .i64 k, .int .i64 n, .int .i64 s, .string t, .bool b]] w' fun e w'' => e = .returned (.string (textF ⟨k, n, s, t, b⟩)) ∧ Below w'.heap.size w' w'' from fun w' hb => string_any ⟨k, n, s, t, b⟩ hR m w' (hL.base.on hb))
    have CT := Lib.hid (show ∀ w', Calls Tryz.prog 26 #[.agg #[.int .i64 k, .int .i64 n, .int .i64 s, .string t, .bool b]] w' fun e w'' => e = .returned (.string (textF ⟨k, n, s, t, b⟩)) ∧ Below w'.heap.size w' w'' from fun w' => rtext_any ⟨k, n, s, t, b⟩ hR w')
    have CNu := Lib.hid (fun w => num_is k n s t b n s (num_RA hR) w)
    generalize textF ⟨k, n, s, t, b⟩ = Z at *
    clear hr ht hL hR
    cases e1 : (k == 1)
    all_goals cases e2 : (k == 2)
    all_goals rw [e1, e2] at CN
    all_goals
      go_enter Tryz.func5, Tryz.ntmps5
      go_wp2_with (first
        | (go_at_call 12; with_reducible refine (CA.out _ (by go_grown)).mono ?_; rintro e w1 ⟨rfl, hb⟩
           have B0' : Blk w1 w.heap.size #[.int .i64 k, .int .i64 n, .int .i64 s, .string t, .bool b] 24 := (Blk.here rfl (by simp)).below hb (by simp <;> omega)
           have hw1 : Below w.heap.size w w1 := Below.trans (by go_grown) (hb.mono (by simp <;> omega))
           have B0 := B0'
           have kB0 : w.heap.size < w1.heap.size := B0.lt
           obtain ⟨B00, B01, B02, B03, B04⟩ := B0.five.1
           clear B0'
           clear hb)
        | (go_at_call 13; with_reducible refine (CR.out _).mono ?_; rintro e w2 ⟨rfl, hb⟩
           have B0' := B0.below hb B0.lt
           have hw2 : Below w.heap.size w w2 := hw1.trans (hb.mono hw1.size)
           clear B0 kB0 B00 B01 B02 B03 B04
           have B0 := B0'
           have kB0 : w.heap.size < w2.heap.size := B0.lt
           obtain ⟨B00, B01, B02, B03, B04⟩ := B0.five.1
           clear B0'
           clear hb))
      refine region_steps 26 [some 9, some 10, some 11, some 12, some 13, some 14, some 15, some 16, some 17, some 18, some 19, some 20, some 21, some 22, some 23, some 24, some 25, some 26, some 27, some 28, some 29, some 30, some 31, some 32, some 33, some 34] (by kernel_rfl) (by kernel_rfl) ?_
      -- 0: Op.load 24 (Operand.tmp 1)
      apply ls_val
      · intro x w' hb hpre K hK
        have hc := (bcell hb).1
        clear hpre
        simp only [frL, Act.put, List.setIfInBounds_toArray, List.set_cons_zero, List.set_cons_succ, Nat.zero_add, Nat.reduceAdd] at hK ⊢
        have HK := Lib.hid hK
        clear hK
        refine Held.mk ?_
        go_simp
        exact HK.out _ (Below.refl _ _)
      -- 1: Op.buildSlice 46 1 #[(0, Operand.tmp 9)]
      refine ls_gen (.row w2.heap.size 1 #[.int .i64 k, .int .i64 n, .int .i64 s, .string t, .bool b] 24) ?_ ?_
      · intro x w' hb hpre K hK
        have hc := (bcell hb).1
        simp [preds, Region.binds, phi, MP.val, MP.box, MP.row] at hpre
        simp only [frL, Act.put, List.setIfInBounds_toArray, List.set_cons_zero, List.set_cons_succ, Nat.zero_add, Nat.reduceAdd, hpre] at hK ⊢
        have HK := Lib.hid hK
        clear hK
        refine Held.mk ?_
        go_simp
        exact HK.out _ _ ⟨_, rfl, hb.size, Blk.new _ _ _⟩ ((Below.refl _ _).alloc (Nat.le_refl _) _)
      -- 2: Op.call { callee := Callee.value (Operand.func 18), args := #[Operand.tmp 10], argTypes :=
      apply ls_val
      · intro x w' hb hpre K hK
        have hc := (bcell hb).1
        have p1 := hpre.1 rfl
        simp [phi, MP.val, MP.box, MP.row] at p1
        obtain ⟨q1, h1, hq1, hB1⟩ := p1
        clear hpre
        simp only [frL, Act.put, List.setIfInBounds_toArray, List.set_cons_zero, List.set_cons_succ, Nat.zero_add, Nat.reduceAdd, h1] at hK ⊢
        have HK := Lib.hid hK
        clear hK
        refine Held.mk ?_
        go_simp
        (with_reducible refine (CX.out q1 w' (hw2.trans (hb.mono hw2.size)) hB1).mono ?_)
        rintro e w1 ⟨rfl, hb1⟩
        dsimp only
        exact HK.out _ hb1
      -- 3: Op.move (Operand.tmp 3)
      apply ls_val
      · intro x w' hb hpre K hK
        have hc := (bcell hb).1
        clear hpre
        simp only [frL, Act.put, List.setIfInBounds_toArray, List.set_cons_zero, List.set_cons_succ, Nat.zero_add, Nat.reduceAdd] at hK ⊢
        have HK := Lib.hid hK
        clear hK
        refine Held.mk ?_
        go_simp
        exact HK.out _ (Below.refl _ _)
      -- 4: Op.binOp BinOp.neq 4 (Operand.tmp 11) (Operand.tmp 12) 4
      apply ls_val
      · intro x w' hb hpre K hK
        have hc := (bcell hb).1
        simp [preds, Region.binds, phi, MP.val, MP.box, MP.row] at hpre
        simp only [frL, Act.put, List.setIfInBounds_toArray, List.set_cons_zero, List.set_cons_succ, Nat.zero_add, Nat.reduceAdd, hpre] at hK ⊢
        have HK := Lib.hid hK
        clear hK
        refine Held.mk ?_
        go_simp
        exact HK.out _ (Below.refl _ _)
      -- 5: Op.move (Operand.tmp 13)
      apply ls_val
      · intro x w' hb hpre K hK
        have hc := (bcell hb).1
        simp [preds, Region.binds, phi, MP.val, MP.box, MP.row] at hpre
        simp only [frL, Act.put, List.setIfInBounds_toArray, List.set_cons_zero, List.set_cons_succ, Nat.zero_add, Nat.reduceAdd, hpre] at hK ⊢
        have HK := Lib.hid hK
        clear hK
        refine Held.mk ?_
        go_simp
        exact HK.out _ (Below.refl _ _)
      -- 6: Op.call { callee := Callee.value (Operand.func 19), args := #[Operand.const (Value.int Int
      apply ls_val
      · intro x w' hb hpre K hK
        have hc := (bcell hb).1
        simp [preds, Region.binds, phi, MP.val, MP.box, MP.row] at hpre
        simp only [frL, Act.put, List.setIfInBounds_toArray, List.set_cons_zero, List.set_cons_succ, Nat.zero_add, Nat.reduceAdd, hpre] at hK ⊢
        have HK := Lib.hid hK
        clear hK
        refine Held.mk ?_
        go_simp
        (with_reducible refine (CO1.out _).mono ?_)
        rintro e w1 ⟨rfl, hb1⟩
        dsimp only
        exact HK.out _ hb1
      -- 7: Op.load 24 (Operand.tmp 1)
      apply ls_val
      · intro x w' hb hpre K hK
        have hc := (bcell hb).1
        simp [preds, Region.binds, phi, MP.val, MP.box, MP.row] at hpre
        simp only [frL, Act.put, List.setIfInBounds_toArray, List.set_cons_zero, List.set_cons_succ, Nat.zero_add, Nat.reduceAdd, hpre] at hK ⊢
        have HK := Lib.hid hK
        clear hK
        refine Held.mk ?_
        go_simp
        exact HK.out _ (Below.refl _ _)
      -- 8: Op.buildSlice 46 2 #[(0, Operand.tmp 15), (1, Operand.tmp 16)]
      refine ls_gen (.row w2.heap.size 2 #[.int .i64 1, .int .i64 1, .int .i64 0, .string ⟨#[]⟩, .bool false, .int .i64 k, .int .i64 n, .int .i64 s, .string t, .bool b] 24) ?_ ?_
      · intro x w' hb hpre K hK
        have hc := (bcell hb).1
        simp [preds, Region.binds, phi, MP.val, MP.box, MP.row] at hpre
        simp only [frL, Act.put, List.setIfInBounds_toArray, List.set_cons_zero, List.set_cons_succ, Nat.zero_add, Nat.reduceAdd, hpre] at hK ⊢
        have HK := Lib.hid hK
        clear hK
        refine Held.mk ?_
        go_simp
        exact HK.out _ _ ⟨_, rfl, hb.size, Blk.new _ _ _⟩ ((Below.refl _ _).alloc (Nat.le_refl _) _)
      -- 9: Op.call { callee := Callee.value (Operand.func 18), args := #[Operand.tmp 17], argTypes :=
      apply ls_val
      · intro x w' hb hpre K hK
        have hc := (bcell hb).1
        have p8 := hpre.1 rfl
        simp [phi, MP.val, MP.box, MP.row] at p8
        obtain ⟨q8, h8, hq8, hB8⟩ := p8
        have p6 := hpre.2.1 rfl
        simp [phi, MP.val, MP.box, MP.row] at p6
        have p5 := hpre.2.2.1 rfl
        simp [phi, MP.val, MP.box, MP.row] at p5
        clear hpre
        simp only [frL, Act.put, List.setIfInBounds_toArray, List.set_cons_zero, List.set_cons_succ, Nat.zero_add, Nat.reduceAdd, h8, p6, p5] at hK ⊢
        have HK := Lib.hid hK
        clear hK
        refine Held.mk ?_
        go_simp
        (with_reducible refine (CY.out q8 w' (hw2.trans (hb.mono hw2.size)) hB8).mono ?_)
        rintro e w1 ⟨rfl, hb1⟩
        dsimp only
        exact HK.out _ hb1
      -- 10: Op.move (Operand.tmp 3)
      apply ls_val
      · intro x w' hb hpre K hK
        have hc := (bcell hb).1
        simp [preds, Region.binds, phi, MP.val, MP.box, MP.row] at hpre
        simp only [frL, Act.put, List.setIfInBounds_toArray, List.set_cons_zero, List.set_cons_succ, Nat.zero_add, Nat.reduceAdd, hpre] at hK ⊢
        have HK := Lib.hid hK
        clear hK
        refine Held.mk ?_
        go_simp
        exact HK.out _ (Below.refl _ _)
      -- 11: Op.binOp BinOp.neq 4 (Operand.tmp 18) (Operand.tmp 19) 4
      apply ls_val
      · intro x w' hb hpre K hK
        have hc := (bcell hb).1
        simp [preds, Region.binds, phi, MP.val, MP.box, MP.row] at hpre
        simp only [frL, Act.put, List.setIfInBounds_toArray, List.set_cons_zero, List.set_cons_succ, Nat.zero_add, Nat.reduceAdd, hpre] at hK ⊢
        have HK := Lib.hid hK
        clear hK
        refine Held.mk ?_
        go_simp
        exact HK.out _ (Below.refl _ _)
      -- 12: Op.pick (Operand.tmp 14) (Operand.const (Value.bool true)) (Operand.tmp 20)
      apply ls_val
      · intro x w' hb hpre K hK
        have hc := (bcell hb).1
        simp [preds, Region.binds, phi, MP.val, MP.box, MP.row] at hpre
        simp only [frL, Act.put, List.setIfInBounds_toArray, List.set_cons_zero, List.set_cons_succ, Nat.zero_add, Nat.reduceAdd, hpre] at hK ⊢
        have HK := Lib.hid hK
        clear hK
        refine Held.mk ?_
        go_simp
        exact HK.out _ (Below.refl _ _)
      -- 13: Op.move (Operand.tmp 21)
      apply ls_val
      · intro x w' hb hpre K hK
        have hc := (bcell hb).1
        simp [preds, Region.binds, phi, MP.val, MP.box, MP.row] at hpre
        simp only [frL, Act.put, List.setIfInBounds_toArray, List.set_cons_zero, List.set_cons_succ, Nat.zero_add, Nat.reduceAdd, hpre] at hK ⊢
        have HK := Lib.hid hK
        clear hK
        refine Held.mk ?_
        go_simp
        exact HK.out _ (Below.refl _ _)
      -- 14: Op.load 24 (Operand.tmp 1)
      apply ls_val
      · intro x w' hb hpre K hK
        have hc := (bcell hb).1
        simp [preds, Region.binds, phi, MP.val, MP.box, MP.row] at hpre
        simp only [frL, Act.put, List.setIfInBounds_toArray, List.set_cons_zero, List.set_cons_succ, Nat.zero_add, Nat.reduceAdd, hpre] at hK ⊢
        have HK := Lib.hid hK
        clear hK
        refine Held.mk ?_
        go_simp
        exact HK.out _ (Below.refl _ _)
      -- 15: Op.call { callee := Callee.value (Operand.func 20), args := #[Operand.tmp 23], argTypes :=
      apply ls_val
      · intro x w' hb hpre K hK
        have hc := (bcell hb).1
        simp [preds, Region.binds, phi, MP.val, MP.box, MP.row] at hpre
        simp only [frL, Act.put, List.setIfInBounds_toArray, List.set_cons_zero, List.set_cons_succ, Nat.zero_add, Nat.reduceAdd, hpre] at hK ⊢
        have HK := Lib.hid hK
        clear hK
        refine Held.mk ?_
        go_simp
        (with_reducible refine (CN.out _).mono ?_)
        rintro e w1 ⟨rfl, hb1⟩
        dsimp only
        exact HK.out _ hb1
      -- 16: Op.fieldAddr 24 (Operand.tmp 1) 0
      apply ls_val
      · intro x w' hb hpre K hK
        have hc := (bcell hb).1
        simp [preds, Region.binds, phi, MP.val, MP.box, MP.row] at hpre
        simp only [frL, Act.put, List.setIfInBounds_toArray, List.set_cons_zero, List.set_cons_succ, Nat.zero_add, Nat.reduceAdd, hpre] at hK ⊢
        have HK := Lib.hid hK
        clear hK
        refine Held.mk ?_
        go_simp
        exact HK.out _ (Below.refl _ _)
      -- 17: Op.load 22 (Operand.tmp 25)
      apply ls_val
      · intro x w' hb hpre K hK
        have hc := (bcell hb).1
        simp [preds, Region.binds, phi, MP.val, MP.box, MP.row] at hpre
        simp only [frL, Act.put, List.setIfInBounds_toArray, List.set_cons_zero, List.set_cons_succ, Nat.zero_add, Nat.reduceAdd, hpre] at hK ⊢
        have HK := Lib.hid hK
        clear hK
        refine Held.mk ?_
        go_simp
        exact HK.out _ (Below.refl _ _)
      -- 18: Op.binOp BinOp.eql 22 (Operand.tmp 26) (Operand.const (Value.int IntKind.i64 1)) 22
      apply ls_val
      · intro x w' hb hpre K hK
        have hc := (bcell hb).1
        simp [preds, Region.binds, phi, MP.val, MP.box, MP.row] at hpre
        simp only [frL, Act.put, List.setIfInBounds_toArray, List.set_cons_zero, List.set_cons_succ, Nat.zero_add, Nat.reduceAdd, hpre] at hK ⊢
        have HK := Lib.hid hK
        clear hK
        refine Held.mk ?_
        go_simp
        exact HK.out _ (Below.refl _ _)
      -- 19: Op.move (Operand.tmp 27)
      apply ls_val
      · intro x w' hb hpre K hK
        have hc := (bcell hb).1
        simp [preds, Region.binds, phi, MP.val, MP.box, MP.row] at hpre
        simp only [frL, Act.put, List.setIfInBounds_toArray, List.set_cons_zero, List.set_cons_succ, Nat.zero_add, Nat.reduceAdd, hpre] at hK ⊢
        have HK := Lib.hid hK
        clear hK
        refine Held.mk ?_
        go_simp
        exact HK.out _ (Below.refl _ _)
      -- 20: Op.fieldAddr 24 (Operand.tmp 1) 0
      apply ls_val
      · intro x w' hb hpre K hK
        have hc := (bcell hb).1
        simp [preds, Region.binds, phi, MP.val, MP.box, MP.row] at hpre
        simp only [frL, Act.put, List.setIfInBounds_toArray, List.set_cons_zero, List.set_cons_succ, Nat.zero_add, Nat.reduceAdd, hpre] at hK ⊢
        have HK := Lib.hid hK
        clear hK
        refine Held.mk ?_
        go_simp
        exact HK.out _ (Below.refl _ _)
      -- 21: Op.load 22 (Operand.tmp 29)
      apply ls_val
      · intro x w' hb hpre K hK
        have hc := (bcell hb).1
        simp [preds, Region.binds, phi, MP.val, MP.box, MP.row] at hpre
        simp only [frL, Act.put, List.setIfInBounds_toArray, List.set_cons_zero, List.set_cons_succ, Nat.zero_add, Nat.reduceAdd, hpre] at hK ⊢
        have HK := Lib.hid hK
        clear hK
        refine Held.mk ?_
        go_simp
        exact HK.out _ (Below.refl _ _)
      -- 22: Op.binOp BinOp.eql 22 (Operand.tmp 30) (Operand.const (Value.int IntKind.i64 2)) 22
      apply ls_val
      · intro x w' hb hpre K hK
        have hc := (bcell hb).1
        simp [preds, Region.binds, phi, MP.val, MP.box, MP.row] at hpre
        simp only [frL, Act.put, List.setIfInBounds_toArray, List.set_cons_zero, List.set_cons_succ, Nat.zero_add, Nat.reduceAdd, hpre] at hK ⊢
        have HK := Lib.hid hK
        clear hK
        refine Held.mk ?_
        go_simp
        exact HK.out _ (Below.refl _ _)
      -- 23: Op.pick (Operand.tmp 28) (Operand.const (Value.bool true)) (Operand.tmp 31)
      apply ls_val
      · intro x w' hb hpre K hK
        have hc := (bcell hb).1
        simp [preds, Region.binds, phi, MP.val, MP.box, MP.row] at hpre
        simp only [frL, Act.put, List.setIfInBounds_toArray, List.set_cons_zero, List.set_cons_succ, Nat.zero_add, Nat.reduceAdd, hpre] at hK ⊢
        have HK := Lib.hid hK
        clear hK
        refine Held.mk ?_
        go_simp
        exact HK.out _ (Below.refl _ _)
      -- 24: Op.binOp BinOp.neq 4 (Operand.tmp 24) (Operand.tmp 32) 4
      apply ls_val
      · intro x w' hb hpre K hK
        have hc := (bcell hb).1
        simp [preds, Region.binds, phi, MP.val, MP.box, MP.row] at hpre
        simp only [frL, Act.put, List.setIfInBounds_toArray, List.set_cons_zero, List.set_cons_succ, Nat.zero_add, Nat.reduceAdd, hpre] at hK ⊢
        have HK := Lib.hid hK
        clear hK
        refine Held.mk ?_
        go_simp
        exact HK.out _ (Below.refl _ _)
      -- 25: Op.pick (Operand.tmp 22) (Operand.const (Value.bool true)) (Operand.tmp 33)
      apply ls_val
      · intro x w' hb hpre K hK
        have hc := (bcell hb).1
        simp [preds, Region.binds, phi, MP.val, MP.box, MP.row] at hpre
        simp only [frL, Act.put, List.setIfInBounds_toArray, List.set_cons_zero, List.set_cons_succ, Nat.zero_add, Nat.reduceAdd, hpre] at hK ⊢
        have HK := Lib.hid hK
        clear hK
        refine Held.mk ?_
        go_simp
        exact HK.out _ (Below.refl _ _)
      intro x w' hb hp
      simp only [List.cons_append, List.nil_append, phis, MP.val, MP.box, MP.row, frL, Act.put, List.setIfInBounds_toArray, List.set_cons_zero, List.set_cons_succ, Nat.zero_add, Nat.reduceAdd] at hp ⊢
      obtain ⟨h0, ⟨q1, h1, hq1, hB1⟩, h2, h3, h4, h5, h6, h7, ⟨q8, h8, hq8, hB8⟩, h9, h10, h11, h12, h13, h14, h15, h16, h17, h18, h19, h20, h21, h22, h23, h24, h25, -⟩ := hp
      simp only [h0, h1, h2, h3, h4, h5, h6, h7, h8, h9, h10, h11, h12, h13, h14, h15, h16, h17, h18, h19, h20, h21, h22, h23, h24, h25]
      clear h0 h1 h2 h3 h4 h5 h6 h7 h8 h9 h10 h11 h12 h13 h14 h15 h16 h17 h18 h19 h20 h21 h22 h23 h24 h25
      show wpList Tryz.prog _ _ [] _ _
      have hw3 := hw2.trans (hb.mono hw2.size)
      have B0' := B0.below hb B0.lt
      clear B0 kB0 B00 B01 B02 B03 B04 hb hw2 hq1 hB1 hq8 hB8 CX CY CO1 CN CA CR
      have B0 := B0'
      clear B0'
      have kB0 := B0.lt
      obtain ⟨⟨B00, B01, B02, B03, B04⟩, -⟩ := B0.five
      go_wp2_with fail
      have B5 := B0.alloc (.cells #[.int .i64 n, .int .i64 s] 31)
      have D5 : Blk (w'.alloc (.cells #[.int .i64 n, .int .i64 s] 31)) w'.heap.size #[.int .i64 n, .int .i64 s] 31 := Blk.here rfl rfl
      have hw4 := hw3.alloc hw3.size (.cells #[.int .i64 n, .int .i64 s] 31)
      clear B0 kB0 B00 B01 B02 B03 B04
      obtain ⟨⟨a0, a1, a2, a3, a4⟩, -⟩ := B5.five
      obtain ⟨c0, c1, -⟩ := D5.two
      generalize w'.alloc (.cells #[.int .i64 n, .int .i64 s] 31) = W at *
      have r0 := cell_regrown a0
      have r1 := cell_regrown a1
      have r2 := cell_regrown a2
      have r3 := cell_regrown a3
      have r4 := cell_regrown a4
      have s0 := cell_regrown c0
      have s1 := cell_regrown c1
      refine wp_region_quiet_below (by kernel_rfl) (by kernel_rfl) ?_
      repeat (go_big_quiet_step (first
        | (go_at_call 21; with_reducible exact Calls.regrown_of (MT.out _))
        | (go_at_call 22; with_reducible exact Calls.regrown_of (MR.out _))
        | (go_at_call 19; with_reducible exact Calls.regrown_of (MO.out _))
        | (go_at_call 23; with_reducible exact Calls.regrown_of (MB.out _))
        | (go_at_call 24; with_reducible exact Calls.regrown_of (MN.out _))))
      refine wpQuiet_nil ?_
      intro _ hw'
      obtain ⟨⟨dq, osq⟩, hw''⟩ := hw'
      subst hw''
      have hgq := below_regrown W dq osq
      have B6 := B5.below hgq B5.lt
      have D6 := D5.below hgq D5.lt
      generalize grow (redrawn W dq) osq = V at *
      have hw5 := hw4.trans (hgq.mono hw4.size)
      clear r0 r1 r2 r3 r4 s0 s1 a0 a1 a2 a3 a4 c0 c1 B5 D5 hw4 hgq MT MR MO MB MN
      obtain ⟨⟨a0, a1, a2, a3, a4⟩, -⟩ := B6.five
      obtain ⟨c0, c1, -⟩ := D6.two
      go_wp2_with fail
      have r0 := cell_regrown a0
      have r1 := cell_regrown a1
      have r2 := cell_regrown a2
      have r3 := cell_regrown a3
      have r4 := cell_regrown a4
      have s0 := cell_regrown c0
      have s1 := cell_regrown c1
      refine wp_region_quiet_below (by kernel_rfl) (by kernel_rfl) ?_
      repeat (go_big_quiet_step (first
        | (go_at_call 25; with_reducible exact Calls.regrown_of (CS.out _ (hw5.trans ((below_regrown _ _ _).mono hw5.size))))
        | (go_at_call 26; with_reducible exact Calls.regrown_of (CT.out _))
        | (go_at_call 16; with_reducible exact Calls.regrown_of (CNu.out _))))
      refine wpQuiet_nil ?_
      intro _ hw'
      obtain ⟨⟨dr, osr⟩, hw''⟩ := hw'
      subst hw''
      have hgr := below_regrown V dr osr
      generalize grow (redrawn V dr) osr = U at *
      have hw6 := hw5.trans (hgr.mono hw5.size)
      clear r0 r1 r2 r3 r4 s0 s1 a0 a1 a2 a3 a4 c0 c1
      go_wp2_with fail
      exact bodyPost_ret (v := .bool true) (by simp [results, Tryz.results5, go_sem]) rfl ⟨rfl, hw6⟩
end Go.Proofs.YtaoobajokhcimaaGreatDoor

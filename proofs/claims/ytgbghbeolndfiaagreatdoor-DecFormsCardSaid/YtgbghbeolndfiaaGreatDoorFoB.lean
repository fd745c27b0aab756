/- The law DecForms: its walk. -/
import Derived.Test.YtgbghbeolndfiaaGreatDoorFoA
import Derived.Test.YtgbghbeolndfiaaGreatDoorDiR
import Derived.Test.YtgbghbeolndfiaaGreatDoorDiM
import Derived.Test.YtgbghbeolndfiaaGreatDoorDeX
import Derived.Test.YtgbghbeolndfiaaGreatDoorWaO
set_option linter.unusedSimpArgs false
set_option linter.unusedVariables false
set_option linter.constructorNameAsVariable false
set_option maxRecDepth 20000
namespace Go.Proofs.YtgbghbeolndfiaaGreatDoor
open Go.RowKit

theorem wp_worldF {P : Program} {c : Code} {Q : Exit → Act → World → Prop} {a : Act} {w : World} (h : ∀ W, W = w → c.wp P Q a W) : c.wp P Q a w := h w rfl
set_option maxHeartbeats 8000000 in
theorem forms_any (n s : Int) (n0 : -9223372036854775808 ≤ n) (n1 : n ≤ 9223372036854775807) (S : ByteArray) (hS0 : S.size ≤ 9223372036854775807) (m : Int) (w : World) (hL : Laid m w) : Calls Tryz.prog 4 #[.agg #[.int .i64 n, .int .i64 s], .string S] w fun e w' => e = .returned (.bool true) ∧ Below w.heap.size w w' := by
  have CW := Lib.hid (fun w' (hb : Below w.heap.size w w') => awake_any m w' (hL.on hb))
  have HL := Lib.hid (fun w' (hb : Below w.heap.size w w') => hL.on hb)
  cases eL : decide ((3000 : Int) < (S.size : Int))
  rotate_left
  · clear HL
    go_enter Tryz.func4, Tryz.ntmps4
    go_wp2_with (first
      | (go_at_call 8
         refine (CW.out _ hw1).mono ?_
         rintro e w9 ⟨rfl, hb⟩
         have hw9 : Below w.heap.size w w9 := hw1.trans (hb.mono hw1.size)
         clear hb)
      | (go_at_call 8
         refine (CW.out _ (by go_grown)).mono ?_
         rintro e w1 ⟨rfl, hb⟩
         have Aw1 : Blk w1 w.heap.size #[.int .i64 n, .int .i64 s] 23 := (Blk.here rfl rfl).below hb (by simp)
         have hw1 : Below w.heap.size w w1 := Below.trans (by go_grown) (hb.mono (by simp))
         obtain ⟨cA0, cA1, fA0, fA1⟩ := Aw1.two
         have kAw1 : w.heap.size < w1.heap.size := Aw1.lt
         clear hb))
    exact bodyPost_ret (v := .bool true) (by simp [results, Tryz.results4, go_sem]) rfl ⟨rfl, hw9⟩
  have hS : S.size ≤ 3000 := by simp at eL; omega
  have RA := Lib.hid (fun w => law_right_any n s w)
  have RO := Lib.hid (fun q w u h => right_one q n s w u h)
  have RT := Lib.hid (fun q w u h => right_two q 1 0 n s w u h)
  have e10 : rightF 1 0 = true := by decide
  simp only [e10, Bool.true_and] at RT
  obtain ⟨rb, hrb⟩ : ∃ rb, rb = rightF n s := ⟨_, rfl⟩
  simp only [← hrb] at RA RO RT
  have HRB := Lib.hid hrb
  clear hrb e10
  go_enter Tryz.func4, Tryz.ntmps4
  go_wp2_with (first
    | (go_at_call 8
       refine (CW.out _ (by go_grown)).mono ?_
       rintro e w1 ⟨rfl, hb⟩
       have Aw1 : Blk w1 w.heap.size #[.int .i64 n, .int .i64 s] 23 := (Blk.here rfl rfl).below hb (by simp)
       have hw1 : Below w.heap.size w w1 := Below.trans (by go_grown) (hb.mono (by simp))
       obtain ⟨cA0, cA1, fA0, fA1⟩ := Aw1.two
       have kAw1 : w.heap.size < w1.heap.size := Aw1.lt
       clear hb))
  refine region_steps 15 [some 26, some 27, some 28, some 29, some 30, some 31, some 32, some 33, some 34, some 35, some 36, some 37, some 38, some 39, some 40] (by kernel_rfl) (by kernel_rfl) ?_
  -- 0: Op.load 23 (Operand.tmp 2)
  apply ls_val
  · intro x w' hb hpre K hK
    have hc := (bcell hb).1
    clear hpre
    simp only [frL, Act.put, List.setIfInBounds_toArray, List.set_cons_zero, List.set_cons_succ, Nat.zero_add, Nat.reduceAdd] at hK ⊢
    have HK := Lib.hid hK
    clear hK
    refine Held.mk ?_
    go_simp
    exact HK.out _ (Below.refl _ _)
  -- 1: Op.buildSlice 45 1 #[(0, Operand.tmp 26)]
  refine ls_gen (.row w1.heap.size 1 #[.int .i64 n, .int .i64 s] 23) ?_ ?_
  · intro x w' hb hpre K hK
    have hc := (bcell hb).1
    simp [preds, Region.binds, phi, MP.val, MP.box, MP.row] at hpre
    simp only [frL, Act.put, List.setIfInBounds_toArray, List.set_cons_zero, List.set_cons_succ, Nat.zero_add, Nat.reduceAdd, hpre] at hK ⊢
    have HK := Lib.hid hK
    clear hK
    refine Held.mk ?_
    go_simp
    exact HK.out _ _ ⟨_, rfl, hb.size, Blk.new _ _ _⟩ ((Below.refl _ _).alloc (Nat.le_refl _) _)
  -- 2: Op.call { callee := Callee.value (Operand.func 12), args := #[Operand.tmp 27], argTypes :=
  apply ls_val
  · intro x w' hb hpre K hK
    have hc := (bcell hb).1
    have p1 := hpre.1 rfl
    simp [phi, MP.val, MP.box, MP.row] at p1
    obtain ⟨q1, h1, hq1, hB1⟩ := p1
    clear hpre
    simp only [frL, Act.put, List.setIfInBounds_toArray, List.set_cons_zero, List.set_cons_succ, Nat.zero_add, Nat.reduceAdd, h1] at hK ⊢
    have HK := Lib.hid hK
    clear hK
    refine Held.mk ?_
    go_simp
    refine (RO.out q1 w' _ hB1).mono ?_
    rintro e w1 ⟨rfl, hb1⟩
    dsimp only
    exact HK.out _ hb1
  -- 3: Op.load 23 (Operand.tmp 2)
  apply ls_val
  · intro x w' hb hpre K hK
    have hc := (bcell hb).1
    clear hpre
    simp only [frL, Act.put, List.setIfInBounds_toArray, List.set_cons_zero, List.set_cons_succ, Nat.zero_add, Nat.reduceAdd] at hK ⊢
    have HK := Lib.hid hK
    clear hK
    refine Held.mk ?_
    go_simp
    exact HK.out _ (Below.refl _ _)
  -- 4: Op.call { callee := Callee.value (Operand.func 9), args := #[Operand.tmp 29], argTypes := 
  apply ls_val
  · intro x w' hb hpre K hK
    have hc := (bcell hb).1
    simp [preds, Region.binds, phi, MP.val, MP.box, MP.row] at hpre
    simp only [frL, Act.put, List.setIfInBounds_toArray, List.set_cons_zero, List.set_cons_succ, Nat.zero_add, Nat.reduceAdd, hpre] at hK ⊢
    have HK := Lib.hid hK
    clear hK
    refine Held.mk ?_
    go_simp
    (with_reducible refine (RA.out _).mono ?_)
    rintro e w1 ⟨rfl, hb1⟩
    dsimp only
    exact HK.out _ hb1
  -- 5: Op.binOp BinOp.neq 4 (Operand.tmp 28) (Operand.tmp 30) 4
  apply ls_val
  · intro x w' hb hpre K hK
    have hc := (bcell hb).1
    simp [preds, Region.binds, phi, MP.val, MP.box, MP.row] at hpre
    simp only [frL, Act.put, List.setIfInBounds_toArray, List.set_cons_zero, List.set_cons_succ, Nat.zero_add, Nat.reduceAdd, hpre] at hK ⊢
    have HK := Lib.hid hK
    clear hK
    refine Held.mk ?_
    go_simp
    exact HK.out _ (Below.refl _ _)
  -- 6: Op.move (Operand.tmp 31)
  apply ls_val
  · intro x w' hb hpre K hK
    have hc := (bcell hb).1
    simp [preds, Region.binds, phi, MP.val, MP.box, MP.row] at hpre
    simp only [frL, Act.put, List.setIfInBounds_toArray, List.set_cons_zero, List.set_cons_succ, Nat.zero_add, Nat.reduceAdd, hpre] at hK ⊢
    have HK := Lib.hid hK
    clear hK
    refine Held.mk ?_
    go_simp
    exact HK.out _ (Below.refl _ _)
  -- 7: Op.build 23 #[(0, Operand.const (Value.int IntKind.i64 1))]
  apply ls_val
  · intro x w' hb hpre K hK
    have hc := (bcell hb).1
    simp [preds, Region.binds, phi, MP.val, MP.box, MP.row] at hpre
    simp only [frL, Act.put, List.setIfInBounds_toArray, List.set_cons_zero, List.set_cons_succ, Nat.zero_add, Nat.reduceAdd, hpre] at hK ⊢
    have HK := Lib.hid hK
    clear hK
    refine Held.mk ?_
    go_simp
    exact HK.out _ (Below.refl _ _)
  -- 8: Op.load 23 (Operand.tmp 2)
  apply ls_val
  · intro x w' hb hpre K hK
    have hc := (bcell hb).1
    simp [preds, Region.binds, phi, MP.val, MP.box, MP.row] at hpre
    simp only [frL, Act.put, List.setIfInBounds_toArray, List.set_cons_zero, List.set_cons_succ, Nat.zero_add, Nat.reduceAdd, hpre] at hK ⊢
    have HK := Lib.hid hK
    clear hK
    refine Held.mk ?_
    go_simp
    exact HK.out _ (Below.refl _ _)
  -- 9: Op.buildSlice 45 2 #[(0, Operand.tmp 33), (1, Operand.tmp 34)]
  refine ls_gen (.row w1.heap.size 2 #[.int .i64 1, .int .i64 0, .int .i64 n, .int .i64 s] 23) ?_ ?_
  · intro x w' hb hpre K hK
    have hc := (bcell hb).1
    simp [preds, Region.binds, phi, MP.val, MP.box, MP.row] at hpre
    simp only [frL, Act.put, List.setIfInBounds_toArray, List.set_cons_zero, List.set_cons_succ, Nat.zero_add, Nat.reduceAdd, hpre] at hK ⊢
    have HK := Lib.hid hK
    clear hK
    refine Held.mk ?_
    go_simp
    exact HK.out _ _ ⟨_, rfl, hb.size, Blk.new _ _ _⟩ ((Below.refl _ _).alloc (Nat.le_refl _) _)
  -- 10: Op.call { callee := Callee.value (Operand.func 12), args := #[Operand.tmp 35], argTypes :=
  apply ls_val
  · intro x w' hb hpre K hK
    have hc := (bcell hb).1
    have p9 := hpre.1 rfl
    simp [phi, MP.val, MP.box, MP.row] at p9
    obtain ⟨q9, h9, hq9, hB9⟩ := p9
    have p6 := hpre.2.1 rfl
    simp [phi, MP.val, MP.box, MP.row] at p6
    clear hpre
    simp only [frL, Act.put, List.setIfInBounds_toArray, List.set_cons_zero, List.set_cons_succ, Nat.zero_add, Nat.reduceAdd, h9, p6] at hK ⊢
    have HK := Lib.hid hK
    clear hK
    refine Held.mk ?_
    go_simp
    refine (RT.out q9 w' _ hB9).mono ?_
    rintro e w1 ⟨rfl, hb1⟩
    dsimp only
    exact HK.out _ hb1
  -- 11: Op.load 23 (Operand.tmp 2)
  apply ls_val
  · intro x w' hb hpre K hK
    have hc := (bcell hb).1
    simp [preds, Region.binds, phi, MP.val, MP.box, MP.row] at hpre
    simp only [frL, Act.put, List.setIfInBounds_toArray, List.set_cons_zero, List.set_cons_succ, Nat.zero_add, Nat.reduceAdd, hpre] at hK ⊢
    have HK := Lib.hid hK
    clear hK
    refine Held.mk ?_
    go_simp
    exact HK.out _ (Below.refl _ _)
  -- 12: Op.call { callee := Callee.value (Operand.func 9), args := #[Operand.tmp 37], argTypes := 
  apply ls_val
  · intro x w' hb hpre K hK
    have hc := (bcell hb).1
    simp [preds, Region.binds, phi, MP.val, MP.box, MP.row] at hpre
    simp only [frL, Act.put, List.setIfInBounds_toArray, List.set_cons_zero, List.set_cons_succ, Nat.zero_add, Nat.reduceAdd, hpre] at hK ⊢
    have HK := Lib.hid hK
    clear hK
    refine Held.mk ?_
    go_simp
    (with_reducible refine (RA.out _).mono ?_)
    rintro e w1 ⟨rfl, hb1⟩
    dsimp only
    exact HK.out _ hb1
  -- 13: Op.binOp BinOp.neq 4 (Operand.tmp 36) (Operand.tmp 38) 4
  apply ls_val
  · intro x w' hb hpre K hK
    have hc := (bcell hb).1
    simp [preds, Region.binds, phi, MP.val, MP.box, MP.row] at hpre
    simp only [frL, Act.put, List.setIfInBounds_toArray, List.set_cons_zero, List.set_cons_succ, Nat.zero_add, Nat.reduceAdd, hpre] at hK ⊢
    have HK := Lib.hid hK
    clear hK
    refine Held.mk ?_
    go_simp
    exact HK.out _ (Below.refl _ _)
  -- 14: Op.pick (Operand.tmp 32) (Operand.const (Value.bool true)) (Operand.tmp 39)
  apply ls_val
  · intro x w' hb hpre K hK
    have hc := (bcell hb).1
    simp [preds, Region.binds, phi, MP.val, MP.box, MP.row] at hpre
    simp only [frL, Act.put, List.setIfInBounds_toArray, List.set_cons_zero, List.set_cons_succ, Nat.zero_add, Nat.reduceAdd, hpre] at hK ⊢
    have HK := Lib.hid hK
    clear hK
    refine Held.mk ?_
    go_simp
    exact HK.out _ (Below.refl _ _)
  intro x w' hb hp
  simp only [List.cons_append, List.nil_append, phis, MP.val, MP.box, MP.row, frL, Act.put, List.setIfInBounds_toArray, List.set_cons_zero, List.set_cons_succ, Nat.zero_add, Nat.reduceAdd] at hp ⊢
  obtain ⟨h0, ⟨q1, h1, hq1, hB1⟩, h2, h3, h4, h5, h6, h7, h8, ⟨q9, h9, hq9, hB9⟩, h10, h11, h12, h13, h14, -⟩ := hp
  simp only [h0, h1, h2, h3, h4, h5, h6, h7, h8, h9, h10, h11, h12, h13, h14]
  clear h0 h1 h2 h3 h4 h5 h6 h7 h8 h9 h10 h11 h12 h13 h14
  show wpList Tryz.prog _ _ [] _ _
  have hw' : Below w.heap.size w w' := hw1.trans (hb.mono hw1.size)
  have Aw' := Aw1.below hb kAw1
  clear cA0 cA1 fA0 fA1 Aw1 kAw1 hb hw1 CW RO RT hq1 hB1 hq9 hB9
  obtain ⟨cA0, cA1, fA0, fA1⟩ := Aw'.two
  have kAw' : w.heap.size < w'.heap.size := Aw'.lt
  have hSl : S.data.toList.length ≤ 1000000 := by rw [← Lib.size_eq]; omega
  have hSe : (⟨S.data.toList.toArray⟩ : ByteArray) = S := by cases S; simp
  have RP := Lib.hid (fun w => rparse_any S.data.toList hSl w)
  simp only [hSe] at RP
  have PA := Lib.hid (fun w' (hb : Below w.heap.size w w') => parse_any S (by omega) m w' (HL.out w' hb).cell)
  obtain ⟨p1, p2, p3, hp⟩ : ∃ p1 p2 p3, parseF S.data.toList = (p1, p2, p3) := ⟨_, _, _, rfl⟩
  simp only [hp] at RP PA
  clear hSl hSe hp
  have RO := Lib.hid (fun q w u x y h => right_one q x y w u h)
  by_cases hin : 0 ≤ s ∧ s ≤ 9
  rotate_left
  · have hrb : rb = false := by
      rw [HRB.out]
      cases e : rightF n s
      · rfl
      · have := (rightF_iff n s).1 e
        exact absurd ⟨this.s0, this.s9⟩ hin
    subst hrb
    have MK := Lib.hid (fun w => make_out n s (by omega) w)
    clear HL
    rcases (show s < 0 ∨ (0 ≤ s ∧ 9 < s) by omega) with hs | ⟨hs, hs2⟩
    · have e1 : decide (s < 0) = true := by simpa using hs
      go_wp2_with (first
        | (go_at_call 13
           with_reducible refine (MK.out _).mono ?_
           rintro e w2 ⟨rfl, hb⟩
           have hw2 : Below w.heap.size w w2 := hw'.trans (hb.mono hw'.size)
           have Aw2 := Aw'.below hb Aw'.lt
           clear hb cA0 cA1 fA0 fA1 Aw'
           obtain ⟨cA0, cA1, fA0, fA1⟩ := Aw2.two
           have kAw2 : w.heap.size < w2.heap.size := Aw2.lt)
        | (go_at_call 16
           with_reducible refine (PA.out _ (hw2.alloc hw2.size _)).mono ?_
           rintro e w3 ⟨rfl, hb⟩
           have hw3 : Below w.heap.size w w3 := (hw2.alloc hw2.size _).trans (hb.mono (by have := hw2.size; simp; omega))
           have Aw3 := (Aw2.alloc _).below hb (by have := Aw2.lt; simp; omega)
           clear hb cA0 cA1 fA0 fA1 Aw2
           obtain ⟨cA0, cA1, fA0, fA1⟩ := Aw3.two
           have kAw3 : w.heap.size < w3.heap.size := Aw3.lt)
        | (go_at_call 17
           with_reducible refine (RP.out _).mono ?_
           rintro e w4 ⟨rfl, hb⟩
           have hw4 : Below w.heap.size w w4 := (hw3.alloc hw3.size _).trans (hb.mono (by have := hw3.size; simp; omega))
           have Aw4 := (Aw3.alloc _).below hb (by have := Aw3.lt; simp; omega)
           have Pw4 : Blk w4 w3.heap.size #[.int .i64 p1, .int .i64 p2] 23 := (Blk.here rfl rfl).below hb (by simp)
           clear hb cA0 cA1 fA0 fA1 Aw3
           obtain ⟨cA0, cA1, fA0, fA1⟩ := Aw4.two
           have kAw4 : w.heap.size < w4.heap.size := Aw4.lt
           obtain ⟨cP0, cP1, fP0, fP1⟩ := Pw4.two
           have kPw4 : w3.heap.size < w4.heap.size := Pw4.lt)
        | (go_at_call 9
           with_reducible refine (RA.out _).mono ?_
           rintro e w5 ⟨rfl, hb⟩
           have hw5 : Below w.heap.size w w5 := hw4.trans (hb.mono hw4.size)
           have Aw5 := Aw4.below hb Aw4.lt
           clear hb cA0 cA1 fA0 fA1 cP0 cP1 fP0 fP1 Aw4 Pw4
           obtain ⟨cA0, cA1, fA0, fA1⟩ := Aw5.two
           have kAw5 : w.heap.size < w5.heap.size := Aw5.lt))
      refine bodyPost_ret (v := .bool true) (by simp [results, Tryz.results4, go_sem]) rfl ⟨rfl, ?_⟩
      exact hw5
    · have e1 : decide (s < 0) = false := by simp; omega
      have e2 : decide (9 < s) = true := by simpa using hs2
      go_wp2_with (first
        | (go_at_call 13
           with_reducible refine (MK.out _).mono ?_
           rintro e w2 ⟨rfl, hb⟩
           have hw2 : Below w.heap.size w w2 := hw'.trans (hb.mono hw'.size)
           have Aw2 := Aw'.below hb Aw'.lt
           clear hb cA0 cA1 fA0 fA1 Aw'
           obtain ⟨cA0, cA1, fA0, fA1⟩ := Aw2.two
           have kAw2 : w.heap.size < w2.heap.size := Aw2.lt)
        | (go_at_call 16
           with_reducible refine (PA.out _ (hw2.alloc hw2.size _)).mono ?_
           rintro e w3 ⟨rfl, hb⟩
           have hw3 : Below w.heap.size w w3 := (hw2.alloc hw2.size _).trans (hb.mono (by have := hw2.size; simp; omega))
           have Aw3 := (Aw2.alloc _).below hb (by have := Aw2.lt; simp; omega)
           clear hb cA0 cA1 fA0 fA1 Aw2
           obtain ⟨cA0, cA1, fA0, fA1⟩ := Aw3.two
           have kAw3 : w.heap.size < w3.heap.size := Aw3.lt)
        | (go_at_call 17
           with_reducible refine (RP.out _).mono ?_
           rintro e w4 ⟨rfl, hb⟩
           have hw4 : Below w.heap.size w w4 := (hw3.alloc hw3.size _).trans (hb.mono (by have := hw3.size; simp; omega))
           have Aw4 := (Aw3.alloc _).below hb (by have := Aw3.lt; simp; omega)
           have Pw4 : Blk w4 w3.heap.size #[.int .i64 p1, .int .i64 p2] 23 := (Blk.here rfl rfl).below hb (by simp)
           clear hb cA0 cA1 fA0 fA1 Aw3
           obtain ⟨cA0, cA1, fA0, fA1⟩ := Aw4.two
           have kAw4 : w.heap.size < w4.heap.size := Aw4.lt
           obtain ⟨cP0, cP1, fP0, fP1⟩ := Pw4.two
           have kPw4 : w3.heap.size < w4.heap.size := Pw4.lt)
        | (go_at_call 9
           with_reducible refine (RA.out _).mono ?_
           rintro e w5 ⟨rfl, hb⟩
           have hw5 : Below w.heap.size w w5 := hw4.trans (hb.mono hw4.size)
           have Aw5 := Aw4.below hb Aw4.lt
           clear hb cA0 cA1 fA0 fA1 cP0 cP1 fP0 fP1 Aw4 Pw4
           obtain ⟨cA0, cA1, fA0, fA1⟩ := Aw5.two
           have kAw5 : w.heap.size < w5.heap.size := Aw5.lt))
      refine bodyPost_ret (v := .bool true) (by simp [results, Tryz.results4, go_sem]) rfl ⟨rfl, ?_⟩
      exact hw5
  · obtain ⟨t, rfl⟩ : ∃ t : Nat, s = (t : Int) := ⟨s.toNat, by omega⟩
    have ht9 : t ≤ 9 := by omega
    have MK := Lib.hid (fun w => make_in n t ht9 n0 n1 w)
    have OF := Lib.hid (fun w => of_big n n0 n1 w)
    have gX := (digs_spec n.natAbs).2.1
    have lX := digs_len n.natAbs (by omega)
    have hfit := fit_sgn (decide (n < 0)) gX t
    rw [sgnD_digs] at hfit
    obtain ⟨f1, f2, f3, hf⟩ : ∃ f1 f2 f3, fitD (decide (n < 0)) (digs n.natAbs) t = (f1, f2, f3) := ⟨_, _, _, rfl⟩
    have FT := Lib.hid (fun g c w h1 h2 h3 => fit_big (decide (n < 0)) g c (digs n.natAbs) t w h1 h2 h3 gX (by omega) (by omega) hf)
    rw [hf] at hfit
    have hzc := fitZ_cases n t
    obtain ⟨z1, z2, z3, hz⟩ : ∃ z1 z2 z3, fitZ n t = (z1, z2, z3) := ⟨_, _, _, rfl⟩
    rw [hz] at MK hfit hzc
    obtain ⟨b1, hb1⟩ : ∃ b1, b1 = decide (n < 0) := ⟨_, rfl⟩
    obtain ⟨X, hX⟩ : ∃ X, X = digs n.natAbs := ⟨_, rfl⟩
    rw [← hb1, ← hX] at OF FT
    have HZC := Lib.hid hzc
    have et1 : decide ((t : Int) < 0) = false := by simp; try omega
    have et2 : decide ((9 : Int) < (t : Int)) = false := by simp; try omega
    clear gX lX hf hz hb1 hX hzc hin
    cases f3
    · simp only [Bool.false_eq_true, if_false] at hfit
      obtain ⟨rfl, rfl, rfl⟩ : z1 = 0 ∧ z2 = 0 ∧ z3 = 53 := by simpa [eq_comm] using hfit
      clear hfit HZC RO
      cases rb
      · clear HRB
        go_upto_region 9 with (first
          | (go_at_call 13
             with_reducible refine (MK.out _).mono ?_
             rintro e w2 ⟨rfl, hb⟩
             have hw2 : Below w.heap.size w w2 := hw'.trans (hb.mono hw'.size)
             have Aw2 := Aw'.below hb Aw'.lt
             clear hb cA0 cA1 fA0 fA1 Aw'
             obtain ⟨cA0, cA1, fA0, fA1⟩ := Aw2.two
             have kAw2 : w.heap.size < w2.heap.size := Aw2.lt))
        refine wp_worldF ?_
        intro w3 hw3e
        have Aw3 : Blk w3 w.heap.size #[.int .i64 n, .int .i64 (t : Int)] 23 := by rw [hw3e]; exact Aw2.alloc _
        have Mw3 : Blk w3 w2.heap.size #[.int .i64 0, .int .i64 0] 23 := by rw [hw3e]; exact Blk.here rfl rfl
        have hw3 : Below w.heap.size w w3 := by rw [hw3e]; exact hw2.alloc hw2.size _
        clear hw3e cA0 cA1 fA0 fA1 Aw2 kAw2
        obtain ⟨cA0, cA1, fA0, fA1⟩ := Aw3.two
        obtain ⟨cM0, cM1, fM0, fM1⟩ := Mw3.two
        have kAw3 : w.heap.size < w3.heap.size := Aw3.lt
        have kMw3 : w2.heap.size < w3.heap.size := Mw3.lt
        refine region_steps 12 [some 65, some 66, some 67, some 68, some 69, some 70, some 64, some 71, some 72, some 73, some 7, some 8] (by kernel_rfl) (by kernel_rfl) ?_
        -- 0: Op.fieldAddr 23 (Operand.tmp 2) 0
        apply ls_val
        · intro x w' hb hpre K hK
          have hc := (bcell hb).1
          clear hpre
          simp only [frL, Act.put, List.setIfInBounds_toArray, List.set_cons_zero, List.set_cons_succ, Nat.zero_add, Nat.reduceAdd] at hK ⊢
          have HK := Lib.hid hK
          clear hK
          refine Held.mk ?_
          go_simp
          exact HK.out _ (Below.refl _ _)
        -- 1: Op.load 3 (Operand.tmp 65)
        apply ls_val
        · intro x w' hb hpre K hK
          have hc := (bcell hb).1
          simp [preds, Region.binds, phi, MP.val, MP.box, MP.row] at hpre
          simp only [frL, Act.put, List.setIfInBounds_toArray, List.set_cons_zero, List.set_cons_succ, Nat.zero_add, Nat.reduceAdd, hpre] at hK ⊢
          have HK := Lib.hid hK
          clear hK
          refine Held.mk ?_
          go_simp
          exact HK.out _ (Below.refl _ _)
        -- 2: Op.call { callee := Callee.value (Operand.func 15), args := #[Operand.tmp 66], argTypes :=
        refine ls_gen (MP.big w3.heap.size b1 X) ?_ ?_
        · intro x w' hb hpre K hK
          simp [preds, Region.binds, phi, MP.val, MP.big] at hpre
          simp only [frL, Act.put, List.setIfInBounds_toArray, List.set_cons_zero, List.set_cons_succ, Nat.zero_add, Nat.reduceAdd, hpre] at hK ⊢
          have HK := Lib.hid hK
          clear hK
          refine Held.mk ?_
          go_simp
          (with_reducible refine (OF.out _).mono ?_)
          rintro e w1 ⟨g, c, rfl, hI, hc, hn, hgb, hb1⟩
          dsimp only
          exact HK.out _ _ ⟨_, rfl, g, c, rfl, hI, hc, hn, fun h b o e => Nat.le_trans hb.size (hgb h b o e)⟩ hb1
        -- 3: Op.fieldAddr 23 (Operand.tmp 2) 1
        apply ls_val
        · intro x w' hb hpre K hK
          have hc := (bcell hb).1
          clear hpre
          simp only [frL, Act.put, List.setIfInBounds_toArray, List.set_cons_zero, List.set_cons_succ, Nat.zero_add, Nat.reduceAdd] at hK ⊢
          have HK := Lib.hid hK
          clear hK
          refine Held.mk ?_
          go_simp
          exact HK.out _ (Below.refl _ _)
        -- 4: Op.load 3 (Operand.tmp 68)
        apply ls_val
        · intro x w' hb hpre K hK
          have hc := (bcell hb).1
          simp [preds, Region.binds, phi, MP.val, MP.box, MP.row] at hpre
          simp only [frL, Act.put, List.setIfInBounds_toArray, List.set_cons_zero, List.set_cons_succ, Nat.zero_add, Nat.reduceAdd, hpre] at hK ⊢
          have HK := Lib.hid hK
          clear hK
          refine Held.mk ?_
          go_simp
          exact HK.out _ (Below.refl _ _)
        -- 5: Op.call { callee := Callee.value (Operand.func 14), args := #[Operand.tmp 67, Operand.tmp 
        refine ls_gen (MP.val (.tuple #[.int .i64 f1, .int .i64 f2, .bool false])) ?_ ?_
        · intro x w' hb hpre K hK
          simp [preds, Region.binds, phi, MP.val, MP.big] at hpre
          obtain ⟨⟨u, hp1, g, c, hu, hI, hc, hn, -⟩, hp4⟩ := hpre
          subst hu
          simp only [frL, Act.put, List.setIfInBounds_toArray, List.set_cons_zero, List.set_cons_succ, Nat.zero_add, Nat.reduceAdd, hp1, hp4] at hK ⊢
          have HK := Lib.hid hK
          clear hK
          refine Held.mk ?_
          go_simp
          refine (FT.out g c w' hI hc hn).mono ?_
          rintro e w1 ⟨rfl, hb1⟩
          dsimp only
          exact HK.out _ _ rfl hb1
        -- 6: Op.move (Operand.tmp 70)
        apply ls_val
        · intro x w' hb hpre K hK
          have hc := (bcell hb).1
          simp [preds, Region.binds, phi, MP.val, MP.box, MP.row] at hpre
          simp only [frL, Act.put, List.setIfInBounds_toArray, List.set_cons_zero, List.set_cons_succ, Nat.zero_add, Nat.reduceAdd, hpre] at hK ⊢
          have HK := Lib.hid hK
          clear hK
          refine Held.mk ?_
          go_simp
          exact HK.out _ (Below.refl _ _)
        -- 7: Op.extract (Operand.tmp 64) 0
        apply ls_val
        · intro x w' hb hpre K hK
          have hc := (bcell hb).1
          simp [preds, Region.binds, phi, MP.val, MP.box, MP.row] at hpre
          simp only [frL, Act.put, List.setIfInBounds_toArray, List.set_cons_zero, List.set_cons_succ, Nat.zero_add, Nat.reduceAdd, hpre] at hK ⊢
          have HK := Lib.hid hK
          clear hK
          refine Held.mk ?_
          go_simp
          exact HK.out _ (Below.refl _ _)
        -- 8: Op.extract (Operand.tmp 64) 1
        apply ls_val
        · intro x w' hb hpre K hK
          have hc := (bcell hb).1
          simp [preds, Region.binds, phi, MP.val, MP.box, MP.row] at hpre
          simp only [frL, Act.put, List.setIfInBounds_toArray, List.set_cons_zero, List.set_cons_succ, Nat.zero_add, Nat.reduceAdd, hpre] at hK ⊢
          have HK := Lib.hid hK
          clear hK
          refine Held.mk ?_
          go_simp
          exact HK.out _ (Below.refl _ _)
        -- 9: Op.extract (Operand.tmp 64) 2
        apply ls_val
        · intro x w' hb hpre K hK
          have hc := (bcell hb).1
          simp [preds, Region.binds, phi, MP.val, MP.box, MP.row] at hpre
          simp only [frL, Act.put, List.setIfInBounds_toArray, List.set_cons_zero, List.set_cons_succ, Nat.zero_add, Nat.reduceAdd, hpre] at hK ⊢
          have HK := Lib.hid hK
          clear hK
          refine Held.mk ?_
          go_simp
          exact HK.out _ (Below.refl _ _)
        -- 10: Op.assign (Operand.tmp 71)
        apply ls_val
        · intro x w' hb hpre K hK
          have hc := (bcell hb).1
          simp [preds, Region.binds, phi, MP.val, MP.box, MP.row] at hpre
          simp only [frL, Act.put, List.setIfInBounds_toArray, List.set_cons_zero, List.set_cons_succ, Nat.zero_add, Nat.reduceAdd, hpre] at hK ⊢
          have HK := Lib.hid hK
          clear hK
          refine Held.mk ?_
          go_simp
          exact HK.out _ (Below.refl _ _)
        -- 11: Op.assign (Operand.tmp 72)
        apply ls_val
        · intro x w' hb hpre K hK
          have hc := (bcell hb).1
          simp [preds, Region.binds, phi, MP.val, MP.box, MP.row] at hpre
          simp only [frL, Act.put, List.setIfInBounds_toArray, List.set_cons_zero, List.set_cons_succ, Nat.zero_add, Nat.reduceAdd, hpre] at hK ⊢
          have HK := Lib.hid hK
          clear hK
          refine Held.mk ?_
          go_simp
          exact HK.out _ (Below.refl _ _)
        intro x w' hb hp
        simp only [List.cons_append, List.nil_append, phis, MP.val, MP.box, MP.row, frL, Act.put, List.setIfInBounds_toArray, List.set_cons_zero, List.set_cons_succ, Nat.zero_add, Nat.reduceAdd] at hp ⊢
        obtain ⟨h0, h1, h2, h3, h4, h5, h6, h7, h8, h9, h10, h11, -⟩ := hp
        simp only [h0, h1, h3, h4, h5, h6, h7, h8, h9, h10, h11]
        clear h0 h1 h3 h4 h5 h6 h7 h8 h9 h10 h11
        have hw4 : Below w.heap.size w w' := hw3.trans (hb.mono hw3.size)
        have Aw4 := Aw3.below hb kAw3
        have Mw4 := Mw3.below hb kMw3
        clear h2 hb cA0 cA1 fA0 fA1 cM0 cM1 fM0 fM1 Aw3 Mw3 kAw3 kMw3
        obtain ⟨w4, hW4⟩ : ∃ w4, w4 = w' := ⟨_, rfl⟩
        subst hW4
        obtain ⟨cA0, cA1, fA0, fA1⟩ := Aw4.two
        obtain ⟨cM0, cM1, fM0, fM1⟩ := Mw4.two
        have kAw4 : w.heap.size < w4.heap.size := Aw4.lt
        have kMw4 : w2.heap.size < w4.heap.size := Mw4.lt
        go_wp2_with (first
          | (go_at_call 16
             with_reducible refine (PA.out _ hw4).mono ?_
             rintro e w6 ⟨rfl, hb⟩
             have hw6 : Below w.heap.size w w6 := hw4.trans (hb.mono hw4.size)
             have Aw6 := Aw4.below hb Aw4.lt
             clear hb cA0 cA1 fA0 fA1 cM0 cM1 fM0 fM1 Aw4 Mw4
             obtain ⟨cA0, cA1, fA0, fA1⟩ := Aw6.two
             have kAw6 : w.heap.size < w6.heap.size := Aw6.lt)
          | (go_at_call 17
             with_reducible refine (RP.out _).mono ?_
             rintro e w7 ⟨rfl, hb⟩
             have hw7 : Below w.heap.size w w7 := (hw6.alloc hw6.size _).trans (hb.mono (by have := hw6.size; simp; omega))
             have Aw7 := (Aw6.alloc _).below hb (by have := Aw6.lt; simp; omega)
             have Pw7 : Blk w7 w6.heap.size #[.int .i64 p1, .int .i64 p2] 23 := (Blk.here rfl rfl).below hb (by simp)
             clear hb cA0 cA1 fA0 fA1 Aw6
             obtain ⟨cA0, cA1, fA0, fA1⟩ := Aw7.two
             have kAw7 : w.heap.size < w7.heap.size := Aw7.lt
             obtain ⟨cP0, cP1, fP0, fP1⟩ := Pw7.two
             have kPw7 : w6.heap.size < w7.heap.size := Pw7.lt)
          | (go_at_call 9
             with_reducible refine (RA.out _).mono ?_
             rintro e w8 ⟨rfl, hb⟩
             have hw8 : Below w.heap.size w w8 := hw7.trans (hb.mono hw7.size)
             have Aw8 := Aw7.below hb Aw7.lt
             clear hb cA0 cA1 fA0 fA1 cP0 cP1 fP0 fP1 Aw7 Pw7
             obtain ⟨cA0, cA1, fA0, fA1⟩ := Aw8.two
             have kAw8 : w.heap.size < w8.heap.size := Aw8.lt))
        refine bodyPost_ret (v := .bool true) (by simp [results, Tryz.results4, go_sem]) rfl ⟨rfl, ?_⟩
        exact hw8
      · have hrt : Rt n (t : Int) := (rightF_iff n t).1 HRB.out.symm
        have hpf := parse_format hrt
        have FM := Lib.hid (fun w' (hb : Below w.heap.size w w') => format_any n t n0 n1 ht9 w' (HL.out w' hb).tab)
        have RF := Lib.hid (fun w => rformat_any n t n0 n1 ht9 w)
        have hfl : (formatF n t).length ≤ 1000000 := by
          have h1 := decDigits_len n.natAbs (by omega)
          have h2 : (padS (Lib.decDigits n.natAbs) t).length ≤ 40 := by
            unfold padS
            split
            · rw [List.length_append, repeat_one, List.length_replicate]; omega
            · omega
          have h3 : (if n < 0 then [45] else ([] : List UInt8)).length ≤ 1 := by split <;> simp
          have h4 : ∀ (a b : List UInt8), a.length ≤ 1 → b.length ≤ 100 → (a ++ b).length ≤ 1000000 := fun a b ha hb => by rw [List.length_append]; omega
          unfold formatF
          refine h4 _ _ h3 ?_
          by_cases h0 : t = 0
          · rw [if_pos h0]; omega
          · rw [if_neg h0]
            simp only [List.length_append, List.length_take, List.length_drop, List.length_singleton]
            omega
        obtain ⟨FS, hFS⟩ : ∃ FS : ByteArray, FS = ⟨(formatF n t).toArray⟩ := ⟨_, rfl⟩
        have PB := Lib.hid (fun w' (hb : Below w.heap.size w w') => parse_any FS (by rw [hFS, ba_size]; exact hfl) m w' (HL.out w' hb).cell)
        have hFl : parseF FS.data.toList = (n, (t : Int), 0) := by rw [hFS]; exact hpf
        rw [hFl] at PB
        simp only [← hFS] at FM RF
        clear hpf hfl hFS hFl hrt
        clear HRB
        go_upto_region 9 with (first
          | (go_at_call 13
             with_reducible refine (MK.out _).mono ?_
             rintro e w2 ⟨rfl, hb⟩
             have hw2 : Below w.heap.size w w2 := hw'.trans (hb.mono hw'.size)
             have Aw2 := Aw'.below hb Aw'.lt
             clear hb cA0 cA1 fA0 fA1 Aw'
             obtain ⟨cA0, cA1, fA0, fA1⟩ := Aw2.two
             have kAw2 : w.heap.size < w2.heap.size := Aw2.lt))
        refine wp_worldF ?_
        intro w3 hw3e
        have Aw3 : Blk w3 w.heap.size #[.int .i64 n, .int .i64 (t : Int)] 23 := by rw [hw3e]; exact Aw2.alloc _
        have Mw3 : Blk w3 w2.heap.size #[.int .i64 0, .int .i64 0] 23 := by rw [hw3e]; exact Blk.here rfl rfl
        have hw3 : Below w.heap.size w w3 := by rw [hw3e]; exact hw2.alloc hw2.size _
        clear hw3e cA0 cA1 fA0 fA1 Aw2 kAw2
        obtain ⟨cA0, cA1, fA0, fA1⟩ := Aw3.two
        obtain ⟨cM0, cM1, fM0, fM1⟩ := Mw3.two
        have kAw3 : w.heap.size < w3.heap.size := Aw3.lt
        have kMw3 : w2.heap.size < w3.heap.size := Mw3.lt
        refine region_steps 12 [some 65, some 66, some 67, some 68, some 69, some 70, some 64, some 71, some 72, some 73, some 7, some 8] (by kernel_rfl) (by kernel_rfl) ?_
        -- 0: Op.fieldAddr 23 (Operand.tmp 2) 0
        apply ls_val
        · intro x w' hb hpre K hK
          have hc := (bcell hb).1
          clear hpre
          simp only [frL, Act.put, List.setIfInBounds_toArray, List.set_cons_zero, List.set_cons_succ, Nat.zero_add, Nat.reduceAdd] at hK ⊢
          have HK := Lib.hid hK
          clear hK
          refine Held.mk ?_
          go_simp
          exact HK.out _ (Below.refl _ _)
        -- 1: Op.load 3 (Operand.tmp 65)
        apply ls_val
        · intro x w' hb hpre K hK
          have hc := (bcell hb).1
          simp [preds, Region.binds, phi, MP.val, MP.box, MP.row] at hpre
          simp only [frL, Act.put, List.setIfInBounds_toArray, List.set_cons_zero, List.set_cons_succ, Nat.zero_add, Nat.reduceAdd, hpre] at hK ⊢
          have HK := Lib.hid hK
          clear hK
          refine Held.mk ?_
          go_simp
          exact HK.out _ (Below.refl _ _)
        -- 2: Op.call { callee := Callee.value (Operand.func 15), args := #[Operand.tmp 66], argTypes :=
        refine ls_gen (MP.big w3.heap.size b1 X) ?_ ?_
        · intro x w' hb hpre K hK
          simp [preds, Region.binds, phi, MP.val, MP.big] at hpre
          simp only [frL, Act.put, List.setIfInBounds_toArray, List.set_cons_zero, List.set_cons_succ, Nat.zero_add, Nat.reduceAdd, hpre] at hK ⊢
          have HK := Lib.hid hK
          clear hK
          refine Held.mk ?_
          go_simp
          (with_reducible refine (OF.out _).mono ?_)
          rintro e w1 ⟨g, c, rfl, hI, hc, hn, hgb, hb1⟩
          dsimp only
          exact HK.out _ _ ⟨_, rfl, g, c, rfl, hI, hc, hn, fun h b o e => Nat.le_trans hb.size (hgb h b o e)⟩ hb1
        -- 3: Op.fieldAddr 23 (Operand.tmp 2) 1
        apply ls_val
        · intro x w' hb hpre K hK
          have hc := (bcell hb).1
          clear hpre
          simp only [frL, Act.put, List.setIfInBounds_toArray, List.set_cons_zero, List.set_cons_succ, Nat.zero_add, Nat.reduceAdd] at hK ⊢
          have HK := Lib.hid hK
          clear hK
          refine Held.mk ?_
          go_simp
          exact HK.out _ (Below.refl _ _)
        -- 4: Op.load 3 (Operand.tmp 68)
        apply ls_val
        · intro x w' hb hpre K hK
          have hc := (bcell hb).1
          simp [preds, Region.binds, phi, MP.val, MP.box, MP.row] at hpre
          simp only [frL, Act.put, List.setIfInBounds_toArray, List.set_cons_zero, List.set_cons_succ, Nat.zero_add, Nat.reduceAdd, hpre] at hK ⊢
          have HK := Lib.hid hK
          clear hK
          refine Held.mk ?_
          go_simp
          exact HK.out _ (Below.refl _ _)
        -- 5: Op.call { callee := Callee.value (Operand.func 14), args := #[Operand.tmp 67, Operand.tmp 
        refine ls_gen (MP.val (.tuple #[.int .i64 f1, .int .i64 f2, .bool false])) ?_ ?_
        · intro x w' hb hpre K hK
          simp [preds, Region.binds, phi, MP.val, MP.big] at hpre
          obtain ⟨⟨u, hp1, g, c, hu, hI, hc, hn, -⟩, hp4⟩ := hpre
          subst hu
          simp only [frL, Act.put, List.setIfInBounds_toArray, List.set_cons_zero, List.set_cons_succ, Nat.zero_add, Nat.reduceAdd, hp1, hp4] at hK ⊢
          have HK := Lib.hid hK
          clear hK
          refine Held.mk ?_
          go_simp
          refine (FT.out g c w' hI hc hn).mono ?_
          rintro e w1 ⟨rfl, hb1⟩
          dsimp only
          exact HK.out _ _ rfl hb1
        -- 6: Op.move (Operand.tmp 70)
        apply ls_val
        · intro x w' hb hpre K hK
          have hc := (bcell hb).1
          simp [preds, Region.binds, phi, MP.val, MP.box, MP.row] at hpre
          simp only [frL, Act.put, List.setIfInBounds_toArray, List.set_cons_zero, List.set_cons_succ, Nat.zero_add, Nat.reduceAdd, hpre] at hK ⊢
          have HK := Lib.hid hK
          clear hK
          refine Held.mk ?_
          go_simp
          exact HK.out _ (Below.refl _ _)
        -- 7: Op.extract (Operand.tmp 64) 0
        apply ls_val
        · intro x w' hb hpre K hK
          have hc := (bcell hb).1
          simp [preds, Region.binds, phi, MP.val, MP.box, MP.row] at hpre
          simp only [frL, Act.put, List.setIfInBounds_toArray, List.set_cons_zero, List.set_cons_succ, Nat.zero_add, Nat.reduceAdd, hpre] at hK ⊢
          have HK := Lib.hid hK
          clear hK
          refine Held.mk ?_
          go_simp
          exact HK.out _ (Below.refl _ _)
        -- 8: Op.extract (Operand.tmp 64) 1
        apply ls_val
        · intro x w' hb hpre K hK
          have hc := (bcell hb).1
          simp [preds, Region.binds, phi, MP.val, MP.box, MP.row] at hpre
          simp only [frL, Act.put, List.setIfInBounds_toArray, List.set_cons_zero, List.set_cons_succ, Nat.zero_add, Nat.reduceAdd, hpre] at hK ⊢
          have HK := Lib.hid hK
          clear hK
          refine Held.mk ?_
          go_simp
          exact HK.out _ (Below.refl _ _)
        -- 9: Op.extract (Operand.tmp 64) 2
        apply ls_val
        · intro x w' hb hpre K hK
          have hc := (bcell hb).1
          simp [preds, Region.binds, phi, MP.val, MP.box, MP.row] at hpre
          simp only [frL, Act.put, List.setIfInBounds_toArray, List.set_cons_zero, List.set_cons_succ, Nat.zero_add, Nat.reduceAdd, hpre] at hK ⊢
          have HK := Lib.hid hK
          clear hK
          refine Held.mk ?_
          go_simp
          exact HK.out _ (Below.refl _ _)
        -- 10: Op.assign (Operand.tmp 71)
        apply ls_val
        · intro x w' hb hpre K hK
          have hc := (bcell hb).1
          simp [preds, Region.binds, phi, MP.val, MP.box, MP.row] at hpre
          simp only [frL, Act.put, List.setIfInBounds_toArray, List.set_cons_zero, List.set_cons_succ, Nat.zero_add, Nat.reduceAdd, hpre] at hK ⊢
          have HK := Lib.hid hK
          clear hK
          refine Held.mk ?_
          go_simp
          exact HK.out _ (Below.refl _ _)
        -- 11: Op.assign (Operand.tmp 72)
        apply ls_val
        · intro x w' hb hpre K hK
          have hc := (bcell hb).1
          simp [preds, Region.binds, phi, MP.val, MP.box, MP.row] at hpre
          simp only [frL, Act.put, List.setIfInBounds_toArray, List.set_cons_zero, List.set_cons_succ, Nat.zero_add, Nat.reduceAdd, hpre] at hK ⊢
          have HK := Lib.hid hK
          clear hK
          refine Held.mk ?_
          go_simp
          exact HK.out _ (Below.refl _ _)
        intro x w' hb hp
        simp only [List.cons_append, List.nil_append, phis, MP.val, MP.box, MP.row, frL, Act.put, List.setIfInBounds_toArray, List.set_cons_zero, List.set_cons_succ, Nat.zero_add, Nat.reduceAdd] at hp ⊢
        obtain ⟨h0, h1, h2, h3, h4, h5, h6, h7, h8, h9, h10, h11, -⟩ := hp
        simp only [h0, h1, h3, h4, h5, h6, h7, h8, h9, h10, h11]
        clear h0 h1 h3 h4 h5 h6 h7 h8 h9 h10 h11
        have hw4 : Below w.heap.size w w' := hw3.trans (hb.mono hw3.size)
        have Aw4 := Aw3.below hb kAw3
        have Mw4 := Mw3.below hb kMw3
        clear h2 hb cA0 cA1 fA0 fA1 cM0 cM1 fM0 fM1 Aw3 Mw3 kAw3 kMw3
        obtain ⟨w4, hW4⟩ : ∃ w4, w4 = w' := ⟨_, rfl⟩
        subst hW4
        obtain ⟨cA0, cA1, fA0, fA1⟩ := Aw4.two
        obtain ⟨cM0, cM1, fM0, fM1⟩ := Mw4.two
        have kAw4 : w.heap.size < w4.heap.size := Aw4.lt
        have kMw4 : w2.heap.size < w4.heap.size := Mw4.lt
        go_wp2_with (first
          | (go_at_call 16
             with_reducible refine (PA.out _ hw4).mono ?_
             rintro e w6 ⟨rfl, hb⟩
             have hw6 : Below w.heap.size w w6 := hw4.trans (hb.mono hw4.size)
             have Aw6 := Aw4.below hb Aw4.lt
             clear hb cA0 cA1 fA0 fA1 cM0 cM1 fM0 fM1 Aw4 Mw4
             obtain ⟨cA0, cA1, fA0, fA1⟩ := Aw6.two
             have kAw6 : w.heap.size < w6.heap.size := Aw6.lt)
          | (go_at_call 17
             with_reducible refine (RP.out _).mono ?_
             rintro e w7 ⟨rfl, hb⟩
             have hw7 : Below w.heap.size w w7 := (hw6.alloc hw6.size _).trans (hb.mono (by have := hw6.size; simp; omega))
             have Aw7 := (Aw6.alloc _).below hb (by have := Aw6.lt; simp; omega)
             have Pw7 : Blk w7 w6.heap.size #[.int .i64 p1, .int .i64 p2] 23 := (Blk.here rfl rfl).below hb (by simp)
             clear hb cA0 cA1 fA0 fA1 Aw6
             obtain ⟨cA0, cA1, fA0, fA1⟩ := Aw7.two
             have kAw7 : w.heap.size < w7.heap.size := Aw7.lt
             obtain ⟨cP0, cP1, fP0, fP1⟩ := Pw7.two
             have kPw7 : w6.heap.size < w7.heap.size := Pw7.lt)
          | (go_at_call 9
             with_reducible refine (RA.out _).mono ?_
             rintro e w8 ⟨rfl, hb⟩
             have hw8 : Below w.heap.size w w8 := hw7.trans (hb.mono hw7.size)
             have Aw8 := Aw7.below hb Aw7.lt
             clear hb cA0 cA1 fA0 fA1 cP0 cP1 fP0 fP1 Aw7 Pw7
             obtain ⟨cA0, cA1, fA0, fA1⟩ := Aw8.two
             have kAw8 : w.heap.size < w8.heap.size := Aw8.lt)
          | (go_at_call 18
             with_reducible refine (FM.out _ hw8).mono ?_
             rintro e w9 ⟨rfl, hb⟩
             have hw9 : Below w.heap.size w w9 := hw8.trans (hb.mono hw8.size)
             have Aw9 := Aw8.below hb Aw8.lt
             clear hb cA0 cA1 fA0 fA1 Aw8
             obtain ⟨cA0, cA1, fA0, fA1⟩ := Aw9.two
             have kAw9 : w.heap.size < w9.heap.size := Aw9.lt)
          | (go_at_call 16
             with_reducible refine (PB.out _ hw9).mono ?_
             rintro e w10 ⟨rfl, hb⟩
             have hw10 : Below w.heap.size w w10 := hw9.trans (hb.mono hw9.size)
             have Aw10 := Aw9.below hb Aw9.lt
             clear hb cA0 cA1 fA0 fA1 Aw9
             obtain ⟨cA0, cA1, fA0, fA1⟩ := Aw10.two
             have kAw10 : w.heap.size < w10.heap.size := Aw10.lt)
          | (go_at_call 19
             with_reducible refine (RF.out _).mono ?_
             rintro e w11 ⟨rfl, hb⟩
             have hw11 : Below w.heap.size w w11 := (hw10.alloc hw10.size _).trans (hb.mono (by have := hw10.size; simp; omega))
             have Aw11 := (Aw10.alloc _).below hb (by have := Aw10.lt; simp; omega)
             have Qw11 : Blk w11 w10.heap.size #[.int .i64 n, .int .i64 (t : Int)] 23 := (Blk.here rfl rfl).below hb (by simp)
             clear hb cA0 cA1 fA0 fA1 Aw10
             obtain ⟨cA0, cA1, fA0, fA1⟩ := Aw11.two
             have kAw11 : w.heap.size < w11.heap.size := Aw11.lt
             obtain ⟨cQ0, cQ1, fQ0, fQ1⟩ := Qw11.two
             have kQw11 : w10.heap.size < w11.heap.size := Qw11.lt))
        refine bodyPost_ret (v := .bool true) (by simp [results, Tryz.results4, go_sem]) rfl ⟨rfl, ?_⟩
        exact hw11
    · simp only [if_true] at hfit
      obtain ⟨rfl, rfl, rfl⟩ : z1 = f1 ∧ z2 = f2 ∧ z3 = 0 := by simpa [eq_comm] using hfit
      have hrz : rightF z1 z2 = true := by
        rcases HZC.out with h | ⟨u, v, h, h', -⟩
        · simp at h
        · obtain ⟨rfl, rfl⟩ : z1 = u ∧ z2 = v := by simpa using h
          exact (rightF_iff _ _).2 h'
      clear hfit HZC
      cases rb
      · clear HRB
        go_upto_region 9 with (first
          | (go_at_call 13
             with_reducible refine (MK.out _).mono ?_
             rintro e w2 ⟨rfl, hb⟩
             have hw2 : Below w.heap.size w w2 := hw'.trans (hb.mono hw'.size)
             have Aw2 := Aw'.below hb Aw'.lt
             clear hb cA0 cA1 fA0 fA1 Aw'
             obtain ⟨cA0, cA1, fA0, fA1⟩ := Aw2.two
             have kAw2 : w.heap.size < w2.heap.size := Aw2.lt))
        refine wp_worldF ?_
        intro w3 hw3e
        have Aw3 : Blk w3 w.heap.size #[.int .i64 n, .int .i64 (t : Int)] 23 := by rw [hw3e]; exact Aw2.alloc _
        have Mw3 : Blk w3 w2.heap.size #[.int .i64 z1, .int .i64 z2] 23 := by rw [hw3e]; exact Blk.here rfl rfl
        have hw3 : Below w.heap.size w w3 := by rw [hw3e]; exact hw2.alloc hw2.size _
        clear hw3e cA0 cA1 fA0 fA1 Aw2 kAw2
        obtain ⟨cA0, cA1, fA0, fA1⟩ := Aw3.two
        obtain ⟨cM0, cM1, fM0, fM1⟩ := Mw3.two
        have kAw3 : w.heap.size < w3.heap.size := Aw3.lt
        have kMw3 : w2.heap.size < w3.heap.size := Mw3.lt
        refine region_steps 12 [some 65, some 66, some 67, some 68, some 69, some 70, some 64, some 71, some 72, some 73, some 7, some 8] (by kernel_rfl) (by kernel_rfl) ?_
        -- 0: Op.fieldAddr 23 (Operand.tmp 2) 0
        apply ls_val
        · intro x w' hb hpre K hK
          have hc := (bcell hb).1
          clear hpre
          simp only [frL, Act.put, List.setIfInBounds_toArray, List.set_cons_zero, List.set_cons_succ, Nat.zero_add, Nat.reduceAdd] at hK ⊢
          have HK := Lib.hid hK
          clear hK
          refine Held.mk ?_
          go_simp
          exact HK.out _ (Below.refl _ _)
        -- 1: Op.load 3 (Operand.tmp 65)
        apply ls_val
        · intro x w' hb hpre K hK
          have hc := (bcell hb).1
          simp [preds, Region.binds, phi, MP.val, MP.box, MP.row] at hpre
          simp only [frL, Act.put, List.setIfInBounds_toArray, List.set_cons_zero, List.set_cons_succ, Nat.zero_add, Nat.reduceAdd, hpre] at hK ⊢
          have HK := Lib.hid hK
          clear hK
          refine Held.mk ?_
          go_simp
          exact HK.out _ (Below.refl _ _)
        -- 2: Op.call { callee := Callee.value (Operand.func 15), args := #[Operand.tmp 66], argTypes :=
        refine ls_gen (MP.big w3.heap.size b1 X) ?_ ?_
        · intro x w' hb hpre K hK
          simp [preds, Region.binds, phi, MP.val, MP.big] at hpre
          simp only [frL, Act.put, List.setIfInBounds_toArray, List.set_cons_zero, List.set_cons_succ, Nat.zero_add, Nat.reduceAdd, hpre] at hK ⊢
          have HK := Lib.hid hK
          clear hK
          refine Held.mk ?_
          go_simp
          (with_reducible refine (OF.out _).mono ?_)
          rintro e w1 ⟨g, c, rfl, hI, hc, hn, hgb, hb1⟩
          dsimp only
          exact HK.out _ _ ⟨_, rfl, g, c, rfl, hI, hc, hn, fun h b o e => Nat.le_trans hb.size (hgb h b o e)⟩ hb1
        -- 3: Op.fieldAddr 23 (Operand.tmp 2) 1
        apply ls_val
        · intro x w' hb hpre K hK
          have hc := (bcell hb).1
          clear hpre
          simp only [frL, Act.put, List.setIfInBounds_toArray, List.set_cons_zero, List.set_cons_succ, Nat.zero_add, Nat.reduceAdd] at hK ⊢
          have HK := Lib.hid hK
          clear hK
          refine Held.mk ?_
          go_simp
          exact HK.out _ (Below.refl _ _)
        -- 4: Op.load 3 (Operand.tmp 68)
        apply ls_val
        · intro x w' hb hpre K hK
          have hc := (bcell hb).1
          simp [preds, Region.binds, phi, MP.val, MP.box, MP.row] at hpre
          simp only [frL, Act.put, List.setIfInBounds_toArray, List.set_cons_zero, List.set_cons_succ, Nat.zero_add, Nat.reduceAdd, hpre] at hK ⊢
          have HK := Lib.hid hK
          clear hK
          refine Held.mk ?_
          go_simp
          exact HK.out _ (Below.refl _ _)
        -- 5: Op.call { callee := Callee.value (Operand.func 14), args := #[Operand.tmp 67, Operand.tmp 
        refine ls_gen (MP.val (.tuple #[.int .i64 z1, .int .i64 z2, .bool true])) ?_ ?_
        · intro x w' hb hpre K hK
          simp [preds, Region.binds, phi, MP.val, MP.big] at hpre
          obtain ⟨⟨u, hp1, g, c, hu, hI, hc, hn, -⟩, hp4⟩ := hpre
          subst hu
          simp only [frL, Act.put, List.setIfInBounds_toArray, List.set_cons_zero, List.set_cons_succ, Nat.zero_add, Nat.reduceAdd, hp1, hp4] at hK ⊢
          have HK := Lib.hid hK
          clear hK
          refine Held.mk ?_
          go_simp
          refine (FT.out g c w' hI hc hn).mono ?_
          rintro e w1 ⟨rfl, hb1⟩
          dsimp only
          exact HK.out _ _ rfl hb1
        -- 6: Op.move (Operand.tmp 70)
        apply ls_val
        · intro x w' hb hpre K hK
          have hc := (bcell hb).1
          simp [preds, Region.binds, phi, MP.val, MP.box, MP.row] at hpre
          simp only [frL, Act.put, List.setIfInBounds_toArray, List.set_cons_zero, List.set_cons_succ, Nat.zero_add, Nat.reduceAdd, hpre] at hK ⊢
          have HK := Lib.hid hK
          clear hK
          refine Held.mk ?_
          go_simp
          exact HK.out _ (Below.refl _ _)
        -- 7: Op.extract (Operand.tmp 64) 0
        apply ls_val
        · intro x w' hb hpre K hK
          have hc := (bcell hb).1
          simp [preds, Region.binds, phi, MP.val, MP.box, MP.row] at hpre
          simp only [frL, Act.put, List.setIfInBounds_toArray, List.set_cons_zero, List.set_cons_succ, Nat.zero_add, Nat.reduceAdd, hpre] at hK ⊢
          have HK := Lib.hid hK
          clear hK
          refine Held.mk ?_
          go_simp
          exact HK.out _ (Below.refl _ _)
        -- 8: Op.extract (Operand.tmp 64) 1
        apply ls_val
        · intro x w' hb hpre K hK
          have hc := (bcell hb).1
          simp [preds, Region.binds, phi, MP.val, MP.box, MP.row] at hpre
          simp only [frL, Act.put, List.setIfInBounds_toArray, List.set_cons_zero, List.set_cons_succ, Nat.zero_add, Nat.reduceAdd, hpre] at hK ⊢
          have HK := Lib.hid hK
          clear hK
          refine Held.mk ?_
          go_simp
          exact HK.out _ (Below.refl _ _)
        -- 9: Op.extract (Operand.tmp 64) 2
        apply ls_val
        · intro x w' hb hpre K hK
          have hc := (bcell hb).1
          simp [preds, Region.binds, phi, MP.val, MP.box, MP.row] at hpre
          simp only [frL, Act.put, List.setIfInBounds_toArray, List.set_cons_zero, List.set_cons_succ, Nat.zero_add, Nat.reduceAdd, hpre] at hK ⊢
          have HK := Lib.hid hK
          clear hK
          refine Held.mk ?_
          go_simp
          exact HK.out _ (Below.refl _ _)
        -- 10: Op.assign (Operand.tmp 71)
        apply ls_val
        · intro x w' hb hpre K hK
          have hc := (bcell hb).1
          simp [preds, Region.binds, phi, MP.val, MP.box, MP.row] at hpre
          simp only [frL, Act.put, List.setIfInBounds_toArray, List.set_cons_zero, List.set_cons_succ, Nat.zero_add, Nat.reduceAdd, hpre] at hK ⊢
          have HK := Lib.hid hK
          clear hK
          refine Held.mk ?_
          go_simp
          exact HK.out _ (Below.refl _ _)
        -- 11: Op.assign (Operand.tmp 72)
        apply ls_val
        · intro x w' hb hpre K hK
          have hc := (bcell hb).1
          simp [preds, Region.binds, phi, MP.val, MP.box, MP.row] at hpre
          simp only [frL, Act.put, List.setIfInBounds_toArray, List.set_cons_zero, List.set_cons_succ, Nat.zero_add, Nat.reduceAdd, hpre] at hK ⊢
          have HK := Lib.hid hK
          clear hK
          refine Held.mk ?_
          go_simp
          exact HK.out _ (Below.refl _ _)
        intro x w' hb hp
        simp only [List.cons_append, List.nil_append, phis, MP.val, MP.box, MP.row, frL, Act.put, List.setIfInBounds_toArray, List.set_cons_zero, List.set_cons_succ, Nat.zero_add, Nat.reduceAdd] at hp ⊢
        obtain ⟨h0, h1, h2, h3, h4, h5, h6, h7, h8, h9, h10, h11, -⟩ := hp
        simp only [h0, h1, h3, h4, h5, h6, h7, h8, h9, h10, h11]
        clear h0 h1 h3 h4 h5 h6 h7 h8 h9 h10 h11
        have hw4 : Below w.heap.size w w' := hw3.trans (hb.mono hw3.size)
        have Aw4 := Aw3.below hb kAw3
        have Mw4 := Mw3.below hb kMw3
        clear h2 hb cA0 cA1 fA0 fA1 cM0 cM1 fM0 fM1 Aw3 Mw3 kAw3 kMw3
        obtain ⟨w4, hW4⟩ : ∃ w4, w4 = w' := ⟨_, rfl⟩
        subst hW4
        obtain ⟨cA0, cA1, fA0, fA1⟩ := Aw4.two
        obtain ⟨cM0, cM1, fM0, fM1⟩ := Mw4.two
        have kAw4 : w.heap.size < w4.heap.size := Aw4.lt
        have kMw4 : w2.heap.size < w4.heap.size := Mw4.lt
        go_wp2_with (first
          | (go_at_call 12
             refine (RO.out _ _ _ _ _ (Blk.here rfl rfl)).mono ?_
             rintro e w5 ⟨rfl, hb⟩; rw [hrz]
             have hw5 : Below w.heap.size w w5 := (hw4.alloc hw4.size _).trans (hb.mono (by have := hw4.size; simp; omega))
             have Aw5 := (Aw4.alloc _).below hb (by have := Aw4.lt; simp; omega)
             clear hb cA0 cA1 fA0 fA1 cM0 cM1 fM0 fM1 Aw4 Mw4
             obtain ⟨cA0, cA1, fA0, fA1⟩ := Aw5.two
             have kAw5 : w.heap.size < w5.heap.size := Aw5.lt)
          | (go_at_call 16
             with_reducible refine (PA.out _ hw5).mono ?_
             rintro e w6 ⟨rfl, hb⟩
             have hw6 : Below w.heap.size w w6 := hw5.trans (hb.mono hw5.size)
             have Aw6 := Aw5.below hb Aw5.lt
             clear hb cA0 cA1 fA0 fA1 Aw5
             obtain ⟨cA0, cA1, fA0, fA1⟩ := Aw6.two
             have kAw6 : w.heap.size < w6.heap.size := Aw6.lt)
          | (go_at_call 17
             with_reducible refine (RP.out _).mono ?_
             rintro e w7 ⟨rfl, hb⟩
             have hw7 : Below w.heap.size w w7 := (hw6.alloc hw6.size _).trans (hb.mono (by have := hw6.size; simp; omega))
             have Aw7 := (Aw6.alloc _).below hb (by have := Aw6.lt; simp; omega)
             have Pw7 : Blk w7 w6.heap.size #[.int .i64 p1, .int .i64 p2] 23 := (Blk.here rfl rfl).below hb (by simp)
             clear hb cA0 cA1 fA0 fA1 Aw6
             obtain ⟨cA0, cA1, fA0, fA1⟩ := Aw7.two
             have kAw7 : w.heap.size < w7.heap.size := Aw7.lt
             obtain ⟨cP0, cP1, fP0, fP1⟩ := Pw7.two
             have kPw7 : w6.heap.size < w7.heap.size := Pw7.lt)
          | (go_at_call 9
             with_reducible refine (RA.out _).mono ?_
             rintro e w8 ⟨rfl, hb⟩
             have hw8 : Below w.heap.size w w8 := hw7.trans (hb.mono hw7.size)
             have Aw8 := Aw7.below hb Aw7.lt
             clear hb cA0 cA1 fA0 fA1 cP0 cP1 fP0 fP1 Aw7 Pw7
             obtain ⟨cA0, cA1, fA0, fA1⟩ := Aw8.two
             have kAw8 : w.heap.size < w8.heap.size := Aw8.lt))
        refine bodyPost_ret (v := .bool true) (by simp [results, Tryz.results4, go_sem]) rfl ⟨rfl, ?_⟩
        exact hw8
      · have hrt : Rt n (t : Int) := (rightF_iff n t).1 HRB.out.symm
        have hpf := parse_format hrt
        have FM := Lib.hid (fun w' (hb : Below w.heap.size w w') => format_any n t n0 n1 ht9 w' (HL.out w' hb).tab)
        have RF := Lib.hid (fun w => rformat_any n t n0 n1 ht9 w)
        have hfl : (formatF n t).length ≤ 1000000 := by
          have h1 := decDigits_len n.natAbs (by omega)
          have h2 : (padS (Lib.decDigits n.natAbs) t).length ≤ 40 := by
            unfold padS
            split
            · rw [List.length_append, repeat_one, List.length_replicate]; omega
            · omega
          have h3 : (if n < 0 then [45] else ([] : List UInt8)).length ≤ 1 := by split <;> simp
          have h4 : ∀ (a b : List UInt8), a.length ≤ 1 → b.length ≤ 100 → (a ++ b).length ≤ 1000000 := fun a b ha hb => by rw [List.length_append]; omega
          unfold formatF
          refine h4 _ _ h3 ?_
          by_cases h0 : t = 0
          · rw [if_pos h0]; omega
          · rw [if_neg h0]
            simp only [List.length_append, List.length_take, List.length_drop, List.length_singleton]
            omega
        obtain ⟨FS, hFS⟩ : ∃ FS : ByteArray, FS = ⟨(formatF n t).toArray⟩ := ⟨_, rfl⟩
        have PB := Lib.hid (fun w' (hb : Below w.heap.size w w') => parse_any FS (by rw [hFS, ba_size]; exact hfl) m w' (HL.out w' hb).cell)
        have hFl : parseF FS.data.toList = (n, (t : Int), 0) := by rw [hFS]; exact hpf
        rw [hFl] at PB
        simp only [← hFS] at FM RF
        clear hpf hfl hFS hFl hrt
        clear HRB
        go_upto_region 9 with (first
          | (go_at_call 13
             with_reducible refine (MK.out _).mono ?_
             rintro e w2 ⟨rfl, hb⟩
             have hw2 : Below w.heap.size w w2 := hw'.trans (hb.mono hw'.size)
             have Aw2 := Aw'.below hb Aw'.lt
             clear hb cA0 cA1 fA0 fA1 Aw'
             obtain ⟨cA0, cA1, fA0, fA1⟩ := Aw2.two
             have kAw2 : w.heap.size < w2.heap.size := Aw2.lt))
        refine wp_worldF ?_
        intro w3 hw3e
        have Aw3 : Blk w3 w.heap.size #[.int .i64 n, .int .i64 (t : Int)] 23 := by rw [hw3e]; exact Aw2.alloc _
        have Mw3 : Blk w3 w2.heap.size #[.int .i64 z1, .int .i64 z2] 23 := by rw [hw3e]; exact Blk.here rfl rfl
        have hw3 : Below w.heap.size w w3 := by rw [hw3e]; exact hw2.alloc hw2.size _
        clear hw3e cA0 cA1 fA0 fA1 Aw2 kAw2
        obtain ⟨cA0, cA1, fA0, fA1⟩ := Aw3.two
        obtain ⟨cM0, cM1, fM0, fM1⟩ := Mw3.two
        have kAw3 : w.heap.size < w3.heap.size := Aw3.lt
        have kMw3 : w2.heap.size < w3.heap.size := Mw3.lt
        refine region_steps 12 [some 65, some 66, some 67, some 68, some 69, some 70, some 64, some 71, some 72, some 73, some 7, some 8] (by kernel_rfl) (by kernel_rfl) ?_
        -- 0: Op.fieldAddr 23 (Operand.tmp 2) 0
        apply ls_val
        · intro x w' hb hpre K hK
          have hc := (bcell hb).1
          clear hpre
          simp only [frL, Act.put, List.setIfInBounds_toArray, List.set_cons_zero, List.set_cons_succ, Nat.zero_add, Nat.reduceAdd] at hK ⊢
          have HK := Lib.hid hK
          clear hK
          refine Held.mk ?_
          go_simp
          exact HK.out _ (Below.refl _ _)
        -- 1: Op.load 3 (Operand.tmp 65)
        apply ls_val
        · intro x w' hb hpre K hK
          have hc := (bcell hb).1
          simp [preds, Region.binds, phi, MP.val, MP.box, MP.row] at hpre
          simp only [frL, Act.put, List.setIfInBounds_toArray, List.set_cons_zero, List.set_cons_succ, Nat.zero_add, Nat.reduceAdd, hpre] at hK ⊢
          have HK := Lib.hid hK
          clear hK
          refine Held.mk ?_
          go_simp
          exact HK.out _ (Below.refl _ _)
        -- 2: Op.call { callee := Callee.value (Operand.func 15), args := #[Operand.tmp 66], argTypes :=
        refine ls_gen (MP.big w3.heap.size b1 X) ?_ ?_
        · intro x w' hb hpre K hK
          simp [preds, Region.binds, phi, MP.val, MP.big] at hpre
          simp only [frL, Act.put, List.setIfInBounds_toArray, List.set_cons_zero, List.set_cons_succ, Nat.zero_add, Nat.reduceAdd, hpre] at hK ⊢
          have HK := Lib.hid hK
          clear hK
          refine Held.mk ?_
          go_simp
          (with_reducible refine (OF.out _).mono ?_)
          rintro e w1 ⟨g, c, rfl, hI, hc, hn, hgb, hb1⟩
          dsimp only
          exact HK.out _ _ ⟨_, rfl, g, c, rfl, hI, hc, hn, fun h b o e => Nat.le_trans hb.size (hgb h b o e)⟩ hb1
        -- 3: Op.fieldAddr 23 (Operand.tmp 2) 1
        apply ls_val
        · intro x w' hb hpre K hK
          have hc := (bcell hb).1
          clear hpre
          simp only [frL, Act.put, List.setIfInBounds_toArray, List.set_cons_zero, List.set_cons_succ, Nat.zero_add, Nat.reduceAdd] at hK ⊢
          have HK := Lib.hid hK
          clear hK
          refine Held.mk ?_
          go_simp
          exact HK.out _ (Below.refl _ _)
        -- 4: Op.load 3 (Operand.tmp 68)
        apply ls_val
        · intro x w' hb hpre K hK
          have hc := (bcell hb).1
          simp [preds, Region.binds, phi, MP.val, MP.box, MP.row] at hpre
          simp only [frL, Act.put, List.setIfInBounds_toArray, List.set_cons_zero, List.set_cons_succ, Nat.zero_add, Nat.reduceAdd, hpre] at hK ⊢
          have HK := Lib.hid hK
          clear hK
          refine Held.mk ?_
          go_simp
          exact HK.out _ (Below.refl _ _)
        -- 5: Op.call { callee := Callee.value (Operand.func 14), args := #[Operand.tmp 67, Operand.tmp 
        refine ls_gen (MP.val (.tuple #[.int .i64 z1, .int .i64 z2, .bool true])) ?_ ?_
        · intro x w' hb hpre K hK
          simp [preds, Region.binds, phi, MP.val, MP.big] at hpre
          obtain ⟨⟨u, hp1, g, c, hu, hI, hc, hn, -⟩, hp4⟩ := hpre
          subst hu
          simp only [frL, Act.put, List.setIfInBounds_toArray, List.set_cons_zero, List.set_cons_succ, Nat.zero_add, Nat.reduceAdd, hp1, hp4] at hK ⊢
          have HK := Lib.hid hK
          clear hK
          refine Held.mk ?_
          go_simp
          refine (FT.out g c w' hI hc hn).mono ?_
          rintro e w1 ⟨rfl, hb1⟩
          dsimp only
          exact HK.out _ _ rfl hb1
        -- 6: Op.move (Operand.tmp 70)
        apply ls_val
        · intro x w' hb hpre K hK
          have hc := (bcell hb).1
          simp [preds, Region.binds, phi, MP.val, MP.box, MP.row] at hpre
          simp only [frL, Act.put, List.setIfInBounds_toArray, List.set_cons_zero, List.set_cons_succ, Nat.zero_add, Nat.reduceAdd, hpre] at hK ⊢
          have HK := Lib.hid hK
          clear hK
          refine Held.mk ?_
          go_simp
          exact HK.out _ (Below.refl _ _)
        -- 7: Op.extract (Operand.tmp 64) 0
        apply ls_val
        · intro x w' hb hpre K hK
          have hc := (bcell hb).1
          simp [preds, Region.binds, phi, MP.val, MP.box, MP.row] at hpre
          simp only [frL, Act.put, List.setIfInBounds_toArray, List.set_cons_zero, List.set_cons_succ, Nat.zero_add, Nat.reduceAdd, hpre] at hK ⊢
          have HK := Lib.hid hK
          clear hK
          refine Held.mk ?_
          go_simp
          exact HK.out _ (Below.refl _ _)
        -- 8: Op.extract (Operand.tmp 64) 1
        apply ls_val
        · intro x w' hb hpre K hK
          have hc := (bcell hb).1
          simp [preds, Region.binds, phi, MP.val, MP.box, MP.row] at hpre
          simp only [frL, Act.put, List.setIfInBounds_toArray, List.set_cons_zero, List.set_cons_succ, Nat.zero_add, Nat.reduceAdd, hpre] at hK ⊢
          have HK := Lib.hid hK
          clear hK
          refine Held.mk ?_
          go_simp
          exact HK.out _ (Below.refl _ _)
        -- 9: Op.extract (Operand.tmp 64) 2
        apply ls_val
        · intro x w' hb hpre K hK
          have hc := (bcell hb).1
          simp [preds, Region.binds, phi, MP.val, MP.box, MP.row] at hpre
          simp only [frL, Act.put, List.setIfInBounds_toArray, List.set_cons_zero, List.set_cons_succ, Nat.zero_add, Nat.reduceAdd, hpre] at hK ⊢
          have HK := Lib.hid hK
          clear hK
          refine Held.mk ?_
          go_simp
          exact HK.out _ (Below.refl _ _)
        -- 10: Op.assign (Operand.tmp 71)
        apply ls_val
        · intro x w' hb hpre K hK
          have hc := (bcell hb).1
          simp [preds, Region.binds, phi, MP.val, MP.box, MP.row] at hpre
          simp only [frL, Act.put, List.setIfInBounds_toArray, List.set_cons_zero, List.set_cons_succ, Nat.zero_add, Nat.reduceAdd, hpre] at hK ⊢
          have HK := Lib.hid hK
          clear hK
          refine Held.mk ?_
          go_simp
          exact HK.out _ (Below.refl _ _)
        -- 11: Op.assign (Operand.tmp 72)
        apply ls_val
        · intro x w' hb hpre K hK
          have hc := (bcell hb).1
          simp [preds, Region.binds, phi, MP.val, MP.box, MP.row] at hpre
          simp only [frL, Act.put, List.setIfInBounds_toArray, List.set_cons_zero, List.set_cons_succ, Nat.zero_add, Nat.reduceAdd, hpre] at hK ⊢
          have HK := Lib.hid hK
          clear hK
          refine Held.mk ?_
          go_simp
          exact HK.out _ (Below.refl _ _)
        intro x w' hb hp
        simp only [List.cons_append, List.nil_append, phis, MP.val, MP.box, MP.row, frL, Act.put, List.setIfInBounds_toArray, List.set_cons_zero, List.set_cons_succ, Nat.zero_add, Nat.reduceAdd] at hp ⊢
        obtain ⟨h0, h1, h2, h3, h4, h5, h6, h7, h8, h9, h10, h11, -⟩ := hp
        simp only [h0, h1, h3, h4, h5, h6, h7, h8, h9, h10, h11]
        clear h0 h1 h3 h4 h5 h6 h7 h8 h9 h10 h11
        have hw4 : Below w.heap.size w w' := hw3.trans (hb.mono hw3.size)
        have Aw4 := Aw3.below hb kAw3
        have Mw4 := Mw3.below hb kMw3
        clear h2 hb cA0 cA1 fA0 fA1 cM0 cM1 fM0 fM1 Aw3 Mw3 kAw3 kMw3
        obtain ⟨w4, hW4⟩ : ∃ w4, w4 = w' := ⟨_, rfl⟩
        subst hW4
        obtain ⟨cA0, cA1, fA0, fA1⟩ := Aw4.two
        obtain ⟨cM0, cM1, fM0, fM1⟩ := Mw4.two
        have kAw4 : w.heap.size < w4.heap.size := Aw4.lt
        have kMw4 : w2.heap.size < w4.heap.size := Mw4.lt
        go_wp2_with (first
          | (go_at_call 12
             refine (RO.out _ _ _ _ _ (Blk.here rfl rfl)).mono ?_
             rintro e w5 ⟨rfl, hb⟩; rw [hrz]
             have hw5 : Below w.heap.size w w5 := (hw4.alloc hw4.size _).trans (hb.mono (by have := hw4.size; simp; omega))
             have Aw5 := (Aw4.alloc _).below hb (by have := Aw4.lt; simp; omega)
             clear hb cA0 cA1 fA0 fA1 cM0 cM1 fM0 fM1 Aw4 Mw4
             obtain ⟨cA0, cA1, fA0, fA1⟩ := Aw5.two
             have kAw5 : w.heap.size < w5.heap.size := Aw5.lt)
          | (go_at_call 16
             with_reducible refine (PA.out _ hw5).mono ?_
             rintro e w6 ⟨rfl, hb⟩
             have hw6 : Below w.heap.size w w6 := hw5.trans (hb.mono hw5.size)
             have Aw6 := Aw5.below hb Aw5.lt
             clear hb cA0 cA1 fA0 fA1 Aw5
             obtain ⟨cA0, cA1, fA0, fA1⟩ := Aw6.two
             have kAw6 : w.heap.size < w6.heap.size := Aw6.lt)
          | (go_at_call 17
             with_reducible refine (RP.out _).mono ?_
             rintro e w7 ⟨rfl, hb⟩
             have hw7 : Below w.heap.size w w7 := (hw6.alloc hw6.size _).trans (hb.mono (by have := hw6.size; simp; omega))
             have Aw7 := (Aw6.alloc _).below hb (by have := Aw6.lt; simp; omega)
             have Pw7 : Blk w7 w6.heap.size #[.int .i64 p1, .int .i64 p2] 23 := (Blk.here rfl rfl).below hb (by simp)
             clear hb cA0 cA1 fA0 fA1 Aw6
             obtain ⟨cA0, cA1, fA0, fA1⟩ := Aw7.two
             have kAw7 : w.heap.size < w7.heap.size := Aw7.lt
             obtain ⟨cP0, cP1, fP0, fP1⟩ := Pw7.two
             have kPw7 : w6.heap.size < w7.heap.size := Pw7.lt)
          | (go_at_call 9
             with_reducible refine (RA.out _).mono ?_
             rintro e w8 ⟨rfl, hb⟩
             have hw8 : Below w.heap.size w w8 := hw7.trans (hb.mono hw7.size)
             have Aw8 := Aw7.below hb Aw7.lt
             clear hb cA0 cA1 fA0 fA1 cP0 cP1 fP0 fP1 Aw7 Pw7
             obtain ⟨cA0, cA1, fA0, fA1⟩ := Aw8.two
             have kAw8 : w.heap.size < w8.heap.size := Aw8.lt)
          | (go_at_call 18
             with_reducible refine (FM.out _ hw8).mono ?_
             rintro e w9 ⟨rfl, hb⟩
             have hw9 : Below w.heap.size w w9 := hw8.trans (hb.mono hw8.size)
             have Aw9 := Aw8.below hb Aw8.lt
             clear hb cA0 cA1 fA0 fA1 Aw8
             obtain ⟨cA0, cA1, fA0, fA1⟩ := Aw9.two
             have kAw9 : w.heap.size < w9.heap.size := Aw9.lt)
          | (go_at_call 16
             with_reducible refine (PB.out _ hw9).mono ?_
             rintro e w10 ⟨rfl, hb⟩
             have hw10 : Below w.heap.size w w10 := hw9.trans (hb.mono hw9.size)
             have Aw10 := Aw9.below hb Aw9.lt
             clear hb cA0 cA1 fA0 fA1 Aw9
             obtain ⟨cA0, cA1, fA0, fA1⟩ := Aw10.two
             have kAw10 : w.heap.size < w10.heap.size := Aw10.lt)
          | (go_at_call 19
             with_reducible refine (RF.out _).mono ?_
             rintro e w11 ⟨rfl, hb⟩
             have hw11 : Below w.heap.size w w11 := (hw10.alloc hw10.size _).trans (hb.mono (by have := hw10.size; simp; omega))
             have Aw11 := (Aw10.alloc _).below hb (by have := Aw10.lt; simp; omega)
             have Qw11 : Blk w11 w10.heap.size #[.int .i64 n, .int .i64 (t : Int)] 23 := (Blk.here rfl rfl).below hb (by simp)
             clear hb cA0 cA1 fA0 fA1 Aw10
             obtain ⟨cA0, cA1, fA0, fA1⟩ := Aw11.two
             have kAw11 : w.heap.size < w11.heap.size := Aw11.lt
             obtain ⟨cQ0, cQ1, fQ0, fQ1⟩ := Qw11.two
             have kQw11 : w10.heap.size < w11.heap.size := Qw11.lt))
        refine bodyPost_ret (v := .bool true) (by simp [results, Tryz.results4, go_sem]) rfl ⟨rfl, ?_⟩
        exact hw11
end Go.Proofs.YtgbghbeolndfiaaGreatDoor

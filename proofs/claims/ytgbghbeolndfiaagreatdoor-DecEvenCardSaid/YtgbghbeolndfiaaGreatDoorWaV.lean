/- The law DecEven: its walk. -/
import Derived.Test.YtgbghbeolndfiaaGreatDoorWaO
import Derived.Test.YtgbghbeolndfiaaGreatDoorWaS
import Derived.Test.YtgbghbeolndfiaaGreatDoorWaT
set_option linter.unusedSimpArgs false
set_option linter.unusedVariables false
set_option maxRecDepth 20000
set_option linter.constructorNameAsVariable false
namespace Go.Proofs.YtgbghbeolndfiaaGreatDoor
open Go.RowKit

/-- Two tests, one answer. -/
theorem res_two (p q : Prop) [Decidable p] [Decidable q] (w : World) : (if p then if q then Result.ok (Next.value (.bool true)) w else Result.ok (Next.value (.bool false)) w else Result.ok (Next.value (.bool false)) w) = Result.ok (Next.value (.bool (decide p && decide q))) w := by
  by_cases hp : p <;> by_cases hq : q <;> simp [hp, hq]
theorem eq_two (n k s t : Int) : (!((n == k && s == t) == (decide (n = k) && decide (s = t)))) = false := by
  by_cases hp : n = k <;> by_cases hq : s = t <;> simp [hp, hq]
theorem cmpF_in (n s k t : Int) : -9223372036854775808 ≤ cmpF n s k t ∧ cmpF n s k t ≤ 9223372036854775807 := by
  unfold cmpF
  split
  · omega
  · split <;> omega
set_option maxHeartbeats 8000000 in
theorem even_any (n s k t : Int) (m : Int) (w : World) (hL : Laid m w) : Calls Tryz.prog 7 #[.agg #[.int .i64 n, .int .i64 s], .agg #[.int .i64 k, .int .i64 t]] w fun e w' => e = .returned (.bool true) ∧ Below w.heap.size w w' := by
  have CW := Lib.hid (fun w' (hb : Below w.heap.size w w') => awake_any m w' (hL.on hb))
  have RA := Lib.hid (fun w => law_right_any n s w)
  have RB := Lib.hid (fun w => law_right_any k t w)
  cases eA : rightF n s
  · rw [eA] at RA
    go_enter Tryz.func7, Tryz.ntmps7
    go_wp2_with (first
      | (go_at_call 9
         with_reducible refine (RA.out _).mono ?_
         rintro e w2 ⟨rfl, hb⟩
         have hw2 : Below w.heap.size w w2 := hw1.trans (hb.mono hw1.size)
         have Aw2 := Aw1.below hb Aw1.lt
         have Bw2 := Bw1.below hb Bw1.lt
         clear hb cB0 cB1 fB0 fB1 cA0 cA1 fA0 fA1 Aw1 Bw1
         obtain ⟨cA0, cA1, fA0, fA1⟩ := Aw2.two
         have kAw2 : w.heap.size < w2.heap.size := Aw2.lt
         obtain ⟨cB0, cB1, fB0, fB1⟩ := Bw2.two
         have kBw2 : (w.heap.size + 1) < w2.heap.size := Bw2.lt)
      | (go_at_call 8
         refine (CW.out _ hw2).mono ?_
         rintro e w9 ⟨rfl, hb⟩
         have hw9 : Below w.heap.size w w9 := hw2.trans (hb.mono hw2.size)
         clear hb)
      | (go_at_call 8
         refine (CW.out _ (by go_grown)).mono ?_
         rintro e w1 ⟨rfl, hb⟩
         have Aw1 : Blk w1 w.heap.size #[.int .i64 n, .int .i64 s] 23 := (Blk.alloc (Blk.here rfl rfl) _).below hb (by simp; omega)
         have Bw1 : Blk w1 (w.heap.size + 1) #[.int .i64 k, .int .i64 t] 23 := (Blk.here rfl (by simp)).below hb (by simp)
         have hw1 : Below w.heap.size w w1 := Below.trans (by go_grown) (hb.mono (by simp; omega))
         obtain ⟨cA0, cA1, fA0, fA1⟩ := Aw1.two
         obtain ⟨cB0, cB1, fB0, fB1⟩ := Bw1.two
         have kAw1 : w.heap.size < w1.heap.size := Aw1.lt
         have kBw1 : w.heap.size + 1 < w1.heap.size := Bw1.lt
         clear hb))
    exact bodyPost_ret (v := .bool true) (by simp [results, Tryz.results7, go_sem]) rfl ⟨rfl, hw9⟩
  rw [eA] at RA
  cases eB : rightF k t
  · rw [eB] at RB
    go_enter Tryz.func7, Tryz.ntmps7
    go_wp2_with (first
      | (go_at_call 9
         with_reducible refine (RA.out _).mono ?_
         rintro e w2 ⟨rfl, hb⟩
         have hw2 : Below w.heap.size w w2 := hw1.trans (hb.mono hw1.size)
         have Aw2 := Aw1.below hb Aw1.lt
         have Bw2 := Bw1.below hb Bw1.lt
         clear hb cB0 cB1 fB0 fB1 cA0 cA1 fA0 fA1 Aw1 Bw1
         obtain ⟨cA0, cA1, fA0, fA1⟩ := Aw2.two
         have kAw2 : w.heap.size < w2.heap.size := Aw2.lt
         obtain ⟨cB0, cB1, fB0, fB1⟩ := Bw2.two
         have kBw2 : (w.heap.size + 1) < w2.heap.size := Bw2.lt)
      | (go_at_call 9
         with_reducible refine (RB.out _).mono ?_
         rintro e w3 ⟨rfl, hb⟩
         have hw3 : Below w.heap.size w w3 := hw2.trans (hb.mono hw2.size)
         have Aw3 := Aw2.below hb Aw2.lt
         have Bw3 := Bw2.below hb Bw2.lt
         clear hb cB0 cB1 fB0 fB1 cA0 cA1 fA0 fA1 Aw2 Bw2
         obtain ⟨cA0, cA1, fA0, fA1⟩ := Aw3.two
         have kAw3 : w.heap.size < w3.heap.size := Aw3.lt
         obtain ⟨cB0, cB1, fB0, fB1⟩ := Bw3.two
         have kBw3 : (w.heap.size + 1) < w3.heap.size := Bw3.lt)
      | (go_at_call 8
         refine (CW.out _ hw3).mono ?_
         rintro e w9 ⟨rfl, hb⟩
         have hw9 : Below w.heap.size w w9 := hw3.trans (hb.mono hw3.size)
         clear hb)
      | (go_at_call 8
         refine (CW.out _ (by go_grown)).mono ?_
         rintro e w1 ⟨rfl, hb⟩
         have Aw1 : Blk w1 w.heap.size #[.int .i64 n, .int .i64 s] 23 := (Blk.alloc (Blk.here rfl rfl) _).below hb (by simp; omega)
         have Bw1 : Blk w1 (w.heap.size + 1) #[.int .i64 k, .int .i64 t] 23 := (Blk.here rfl (by simp)).below hb (by simp)
         have hw1 : Below w.heap.size w w1 := Below.trans (by go_grown) (hb.mono (by simp; omega))
         obtain ⟨cA0, cA1, fA0, fA1⟩ := Aw1.two
         obtain ⟨cB0, cB1, fB0, fB1⟩ := Bw1.two
         have kAw1 : w.heap.size < w1.heap.size := Aw1.lt
         have kBw1 : w.heap.size + 1 < w1.heap.size := Bw1.lt
         clear hb))
    exact bodyPost_ret (v := .bool true) (by simp [results, Tryz.results7, go_sem]) rfl ⟨rfl, hw9⟩
  rw [eB] at RB
  have hA := (rightF_iff n s).1 eA
  have hB := (rightF_iff k t).1 eB
  obtain ⟨s', rfl⟩ := rt_nat hA
  obtain ⟨t', rfl⟩ := rt_nat hB
  have A1 := Lib.hid (fun w => add_any n k s' t' hA hB w)
  have A2 := Lib.hid (fun w => add_any k n t' s' hB hA w)
  have M1 := Lib.hid (fun w => mul_any n k s' t' hA hB w)
  have M2 := Lib.hid (fun w => mul_any k n t' s' hB hA w)
  have C1 := Lib.hid (fun w => cmp_any n k s' t' hA hB w)
  have C2 := Lib.hid (fun w => cmp_any k n t' s' hB hA w)
  have S1 := Lib.hid (fun w => sub_any n k s' t' hA hB w)
  have I1 := Lib.hid (fun w => idiv_any n k s' t' hA hB w)
  have O1 := Lib.hid (fun w => mod_any n k s' t' hA hB w)
  rw [addF_comm k t' n s'] at A2
  rw [mulF_comm k t' n s'] at M2
  rw [show cmpF k t' n s' = - cmpF n s' k t' from cmpF_neg hB hA] at C2
  have hz : (cmpF n s' k t' == 0) = (n == k && (s' : Int) == (t' : Int)) := by
    have := cmpF_zero hA hB
    rw [Bool.eq_iff_iff]
    simp only [beq_iff_eq, Bool.and_eq_true]
    exact this
  have hc1 : IntKind.i64.wrap (cmpF n s' k t') = cmpF n s' k t' := IntWalk.i64_in _ (cmpF_in _ _ _ _)
  have QS := Lib.hid (subF_cases hA hB)
  have QB := Lib.hid (fun u v => sub_back hA hB (u := u) (v := v))
  have QI := Lib.hid (fun h => idivF_cases (n := n) (s := s') (k := k) (t := t') h)
  have QO := Lib.hid (fun h => modF_ok hA hB h)
  have QM := Lib.hid (fun q u v h1 h2 h3 c d => mul_back hA hB (q := q) (u := u) (v := v) h1 h2 h3 (c := c) (d := d))
  have HA := Lib.hid hA
  have HB := Lib.hid hB
  clear hA hB eA eB
  generalize hac : addF n s' k t' = ac at A1 A2
  generalize hmc : mulF n s' k t' = mc at M1 M2
  generalize cmpF n s' k t' = c at *
  obtain ⟨x1, x2, x3⟩ := ac
  obtain ⟨z1, z2, z3⟩ := mc
  clear hac hmc
  go_enter Tryz.func7, Tryz.ntmps7
  go_wp2_with (first
    | (go_at_call 9
       with_reducible refine (RA.out _).mono ?_
       rintro e w2 ⟨rfl, hb⟩
       have hw2 : Below w.heap.size w w2 := hw1.trans (hb.mono hw1.size)
       have Aw2 := Aw1.below hb Aw1.lt
       have Bw2 := Bw1.below hb Bw1.lt
       clear hb cB0 cB1 fB0 fB1 cA0 cA1 fA0 fA1 Aw1 Bw1
       obtain ⟨cA0, cA1, fA0, fA1⟩ := Aw2.two
       have kAw2 : w.heap.size < w2.heap.size := Aw2.lt
       obtain ⟨cB0, cB1, fB0, fB1⟩ := Bw2.two
       have kBw2 : (w.heap.size + 1) < w2.heap.size := Bw2.lt)
    | (go_at_call 9
       with_reducible refine (RB.out _).mono ?_
       rintro e w3 ⟨rfl, hb⟩
       have hw3 : Below w.heap.size w w3 := hw2.trans (hb.mono hw2.size)
       have Aw3 := Aw2.below hb Aw2.lt
       have Bw3 := Bw2.below hb Bw2.lt
       clear hb cB0 cB1 fB0 fB1 cA0 cA1 fA0 fA1 Aw2 Bw2
       obtain ⟨cA0, cA1, fA0, fA1⟩ := Aw3.two
       have kAw3 : w.heap.size < w3.heap.size := Aw3.lt
       obtain ⟨cB0, cB1, fB0, fB1⟩ := Bw3.two
       have kBw3 : (w.heap.size + 1) < w3.heap.size := Bw3.lt)
    | (go_at_call 11
       with_reducible refine (A1.out _).mono ?_
       rintro e w4 ⟨rfl, hb⟩
       have hw4 : Below w.heap.size w w4 := hw3.trans (hb.mono hw3.size)
       have Aw4 := Aw3.below hb Aw3.lt
       have Bw4 := Bw3.below hb Bw3.lt
       clear hb cB0 cB1 fB0 fB1 cA0 cA1 fA0 fA1 Aw3 Bw3
       obtain ⟨cA0, cA1, fA0, fA1⟩ := Aw4.two
       have kAw4 : w.heap.size < w4.heap.size := Aw4.lt
       obtain ⟨cB0, cB1, fB0, fB1⟩ := Bw4.two
       have kBw4 : (w.heap.size + 1) < w4.heap.size := Bw4.lt)
    | (go_at_call 11
       with_reducible refine (A2.out _).mono ?_
       rintro e w5 ⟨rfl, hb⟩
       have hw5 : Below w.heap.size w w5 := (hw4.alloc hw4.size _).trans (hb.mono (by have := hw4.size; simp; omega))
       have Aw5 := (Aw4.alloc _).below hb (by have := Aw4.lt; simp; omega)
       have Bw5 := (Bw4.alloc _).below hb (by have := Bw4.lt; simp; omega)
       have Xw5 : Blk w5 w4.heap.size #[.int .i64 x1, .int .i64 x2] 23 := (Blk.here rfl rfl).below hb (by simp)
       clear hb cB0 cB1 fB0 fB1 cA0 cA1 fA0 fA1 Aw4 Bw4
       obtain ⟨cA0, cA1, fA0, fA1⟩ := Aw5.two
       have kAw5 : w.heap.size < w5.heap.size := Aw5.lt
       obtain ⟨cB0, cB1, fB0, fB1⟩ := Bw5.two
       have kBw5 : (w.heap.size + 1) < w5.heap.size := Bw5.lt
       obtain ⟨cX0, cX1, fX0, fX1⟩ := Xw5.two
       have kXw5 : w4.heap.size < w5.heap.size := Xw5.lt)
    | (go_at_call 25
       with_reducible refine (M1.out _).mono ?_
       rintro e w6 ⟨rfl, hb⟩
       have hw6 : Below w.heap.size w w6 := (hw5.alloc hw5.size _).trans (hb.mono (by have := hw5.size; simp; omega))
       have Aw6 := (Aw5.alloc _).below hb (by have := Aw5.lt; simp; omega)
       have Bw6 := (Bw5.alloc _).below hb (by have := Bw5.lt; simp; omega)
       have Xw6 := (Xw5.alloc _).below hb (by have := Xw5.lt; simp; omega)
       have Yw6 : Blk w6 w5.heap.size #[.int .i64 x1, .int .i64 x2] 23 := (Blk.here rfl rfl).below hb (by simp)
       clear hb cX0 cX1 fX0 fX1 cB0 cB1 fB0 fB1 cA0 cA1 fA0 fA1 Aw5 Bw5 Xw5
       obtain ⟨cA0, cA1, fA0, fA1⟩ := Aw6.two
       have kAw6 : w.heap.size < w6.heap.size := Aw6.lt
       obtain ⟨cB0, cB1, fB0, fB1⟩ := Bw6.two
       have kBw6 : (w.heap.size + 1) < w6.heap.size := Bw6.lt
       obtain ⟨cX0, cX1, fX0, fX1⟩ := Xw6.two
       have kXw6 : w4.heap.size < w6.heap.size := Xw6.lt
       obtain ⟨cY0, cY1, fY0, fY1⟩ := Yw6.two
       have kYw6 : w5.heap.size < w6.heap.size := Yw6.lt)
    | (go_at_call 25
       with_reducible refine (M2.out _).mono ?_
       rintro e w7 ⟨rfl, hb⟩
       have hw7 : Below w.heap.size w w7 := (hw6.alloc hw6.size _).trans (hb.mono (by have := hw6.size; simp; omega))
       have Aw7 := (Aw6.alloc _).below hb (by have := Aw6.lt; simp; omega)
       have Bw7 := (Bw6.alloc _).below hb (by have := Bw6.lt; simp; omega)
       have Xw7 := (Xw6.alloc _).below hb (by have := Xw6.lt; simp; omega)
       have Yw7 := (Yw6.alloc _).below hb (by have := Yw6.lt; simp; omega)
       have Zw7 : Blk w7 w6.heap.size #[.int .i64 z1, .int .i64 z2] 23 := (Blk.here rfl rfl).below hb (by simp)
       clear hb cX0 cX1 fX0 fX1 cB0 cB1 fB0 fB1 cY0 cY1 fY0 fY1 cA0 cA1 fA0 fA1 Aw6 Bw6 Xw6 Yw6
       obtain ⟨cA0, cA1, fA0, fA1⟩ := Aw7.two
       have kAw7 : w.heap.size < w7.heap.size := Aw7.lt
       obtain ⟨cB0, cB1, fB0, fB1⟩ := Bw7.two
       have kBw7 : (w.heap.size + 1) < w7.heap.size := Bw7.lt
       obtain ⟨cX0, cX1, fX0, fX1⟩ := Xw7.two
       have kXw7 : w4.heap.size < w7.heap.size := Xw7.lt
       obtain ⟨cY0, cY1, fY0, fY1⟩ := Yw7.two
       have kYw7 : w5.heap.size < w7.heap.size := Yw7.lt
       obtain ⟨cZ0, cZ1, fZ0, fZ1⟩ := Zw7.two
       have kZw7 : w6.heap.size < w7.heap.size := Zw7.lt)
    | (go_at_call 8
       refine (CW.out _ (by go_grown)).mono ?_
       rintro e w1 ⟨rfl, hb⟩
       have Aw1 : Blk w1 w.heap.size #[.int .i64 n, .int .i64 (s' : Int)] 23 := (Blk.alloc (Blk.here rfl rfl) _).below hb (by simp; omega)
       have Bw1 : Blk w1 (w.heap.size + 1) #[.int .i64 k, .int .i64 (t' : Int)] 23 := (Blk.here rfl (by simp)).below hb (by simp)
       have hw1 : Below w.heap.size w w1 := Below.trans (by go_grown) (hb.mono (by simp; omega))
       obtain ⟨cA0, cA1, fA0, fA1⟩ := Aw1.two
       obtain ⟨cB0, cB1, fB0, fB1⟩ := Bw1.two
       have kAw1 : w.heap.size < w1.heap.size := Aw1.lt
       have kBw1 : w.heap.size + 1 < w1.heap.size := Bw1.lt
       clear hb))
  refine wp_worldT ?_
  intro w8 hw8e
  have Aw8 : Blk w8 w.heap.size #[.int .i64 n, .int .i64 (s' : Int)] 23 := by rw [hw8e]; exact Aw7.alloc _
  have Bw8 : Blk w8 (w.heap.size + 1) #[.int .i64 k, .int .i64 (t' : Int)] 23 := by rw [hw8e]; exact Bw7.alloc _
  have Xw8 : Blk w8 w4.heap.size #[.int .i64 x1, .int .i64 x2] 23 := by rw [hw8e]; exact Xw7.alloc _
  have Yw8 : Blk w8 w5.heap.size #[.int .i64 x1, .int .i64 x2] 23 := by rw [hw8e]; exact Yw7.alloc _
  have Zw8 : Blk w8 w6.heap.size #[.int .i64 z1, .int .i64 z2] 23 := by rw [hw8e]; exact Zw7.alloc _
  have Vw8 : Blk w8 w7.heap.size #[.int .i64 z1, .int .i64 z2] 23 := by rw [hw8e]; exact Blk.here rfl rfl
  have hw8 : Below w.heap.size w w8 := by rw [hw8e]; exact hw7.alloc hw7.size _
  clear hw8e cA0 cA1 fA0 fA1 kAw7 Aw7 cB0 cB1 fB0 fB1 kBw7 Bw7 cX0 cX1 fX0 fX1 kXw7 Xw7 cY0 cY1 fY0 fY1 kYw7 Yw7 cZ0 cZ1 fZ0 fZ1 kZw7 Zw7
  obtain ⟨cA0, cA1, fA0, fA1⟩ := Aw8.two
  have kAw8 : w.heap.size < w8.heap.size := Aw8.lt
  obtain ⟨cB0, cB1, fB0, fB1⟩ := Bw8.two
  have kBw8 : (w.heap.size + 1) < w8.heap.size := Bw8.lt
  obtain ⟨cX0, cX1, fX0, fX1⟩ := Xw8.two
  have kXw8 : w4.heap.size < w8.heap.size := Xw8.lt
  obtain ⟨cY0, cY1, fY0, fY1⟩ := Yw8.two
  have kYw8 : w5.heap.size < w8.heap.size := Yw8.lt
  obtain ⟨cZ0, cZ1, fZ0, fZ1⟩ := Zw8.two
  have kZw8 : w6.heap.size < w8.heap.size := Zw8.lt
  obtain ⟨cV0, cV1, fV0, fV1⟩ := Vw8.two
  have kVw8 : w7.heap.size < w8.heap.size := Vw8.lt
  refine region_steps 38 [some 62, some 63, some 64, some 65, some 66, some 67, some 68, some 69, some 70, some 71, some 72, some 73, some 74, some 75, some 76, some 77, some 78, some 79, some 80, some 81, some 82, some 83, some 84, some 85, some 86, some 87, some 88, some 89, some 90, some 91, some 92, some 93, some 94, some 95, some 96, some 97, some 98, some 99] (by kernel_rfl) (by kernel_rfl) ?_
  -- 0: Op.load 23 (Operand.tmp 5)
  apply ls_val
  · intro x w' hb hpre K hK
    have hc := (bcell hb).1
    clear hpre
    simp only [frL, Act.put, List.setIfInBounds_toArray, List.set_cons_zero, List.set_cons_succ, Nat.zero_add, Nat.reduceAdd] at hK ⊢
    have HK := Lib.hid hK
    clear hK
    refine Held.mk ?_
    go_simp
    exact HK.out _ (Below.refl _ _)
  -- 1: Op.load 23 (Operand.tmp 7)
  apply ls_val
  · intro x w' hb hpre K hK
    have hc := (bcell hb).1
    clear hpre
    simp only [frL, Act.put, List.setIfInBounds_toArray, List.set_cons_zero, List.set_cons_succ, Nat.zero_add, Nat.reduceAdd] at hK ⊢
    have HK := Lib.hid hK
    clear hK
    refine Held.mk ?_
    go_simp
    exact HK.out _ (Below.refl _ _)
  -- 2: Op.binOp BinOp.neq 23 (Operand.tmp 62) (Operand.tmp 63) 23
  apply ls_val
  · intro x w' hb hpre K hK
    have hc := (bcell hb).1
    simp [preds, Region.binds, phi, MP.val, MP.box, MP.row] at hpre
    simp only [frL, Act.put, List.setIfInBounds_toArray, List.set_cons_zero, List.set_cons_succ, Nat.zero_add, Nat.reduceAdd, hpre] at hK ⊢
    have HK := Lib.hid hK
    clear hK
    refine Held.mk ?_
    go_simp
    exact HK.out _ (Below.refl _ _)
  -- 3: Op.move (Operand.tmp 64)
  apply ls_val
  · intro x w' hb hpre K hK
    have hc := (bcell hb).1
    simp [preds, Region.binds, phi, MP.val, MP.box, MP.row] at hpre
    simp only [frL, Act.put, List.setIfInBounds_toArray, List.set_cons_zero, List.set_cons_succ, Nat.zero_add, Nat.reduceAdd, hpre] at hK ⊢
    have HK := Lib.hid hK
    clear hK
    refine Held.mk ?_
    go_simp
    exact HK.out _ (Below.refl _ _)
  -- 4: Op.move (Operand.tmp 6)
  apply ls_val
  · intro x w' hb hpre K hK
    have hc := (bcell hb).1
    simp [preds, Region.binds, phi, MP.val, MP.box, MP.row] at hpre
    simp only [frL, Act.put, List.setIfInBounds_toArray, List.set_cons_zero, List.set_cons_succ, Nat.zero_add, Nat.reduceAdd, hpre] at hK ⊢
    have HK := Lib.hid hK
    clear hK
    refine Held.mk ?_
    go_simp
    exact HK.out _ (Below.refl _ _)
  -- 5: Op.move (Operand.tmp 8)
  apply ls_val
  · intro x w' hb hpre K hK
    have hc := (bcell hb).1
    simp [preds, Region.binds, phi, MP.val, MP.box, MP.row] at hpre
    simp only [frL, Act.put, List.setIfInBounds_toArray, List.set_cons_zero, List.set_cons_succ, Nat.zero_add, Nat.reduceAdd, hpre] at hK ⊢
    have HK := Lib.hid hK
    clear hK
    refine Held.mk ?_
    go_simp
    exact HK.out _ (Below.refl _ _)
  -- 6: Op.binOp BinOp.neq 27 (Operand.tmp 66) (Operand.tmp 67) 27
  apply ls_val
  · intro x w' hb hpre K hK
    have hc := (bcell hb).1
    simp [preds, Region.binds, phi, MP.val, MP.box, MP.row] at hpre
    simp only [frL, Act.put, List.setIfInBounds_toArray, List.set_cons_zero, List.set_cons_succ, Nat.zero_add, Nat.reduceAdd, hpre] at hK ⊢
    have HK := Lib.hid hK
    clear hK
    refine Held.mk ?_
    go_simp
    exact HK.out _ (Below.refl _ _)
  -- 7: Op.pick (Operand.tmp 65) (Operand.const (Value.bool true)) (Operand.tmp 68)
  apply ls_val
  · intro x w' hb hpre K hK
    have hc := (bcell hb).1
    simp [preds, Region.binds, phi, MP.val, MP.box, MP.row] at hpre
    simp only [frL, Act.put, List.setIfInBounds_toArray, List.set_cons_zero, List.set_cons_succ, Nat.zero_add, Nat.reduceAdd, hpre] at hK ⊢
    have HK := Lib.hid hK
    clear hK
    refine Held.mk ?_
    go_simp
    exact HK.out _ (Below.refl _ _)
  -- 8: Op.move (Operand.tmp 69)
  apply ls_val
  · intro x w' hb hpre K hK
    have hc := (bcell hb).1
    simp [preds, Region.binds, phi, MP.val, MP.box, MP.row] at hpre
    simp only [frL, Act.put, List.setIfInBounds_toArray, List.set_cons_zero, List.set_cons_succ, Nat.zero_add, Nat.reduceAdd, hpre] at hK ⊢
    have HK := Lib.hid hK
    clear hK
    refine Held.mk ?_
    go_simp
    exact HK.out _ (Below.refl _ _)
  -- 9: Op.load 23 (Operand.tmp 9)
  apply ls_val
  · intro x w' hb hpre K hK
    have hc := (bcell hb).1
    simp [preds, Region.binds, phi, MP.val, MP.box, MP.row] at hpre
    simp only [frL, Act.put, List.setIfInBounds_toArray, List.set_cons_zero, List.set_cons_succ, Nat.zero_add, Nat.reduceAdd, hpre] at hK ⊢
    have HK := Lib.hid hK
    clear hK
    refine Held.mk ?_
    go_simp
    exact HK.out _ (Below.refl _ _)
  -- 10: Op.load 23 (Operand.tmp 11)
  apply ls_val
  · intro x w' hb hpre K hK
    have hc := (bcell hb).1
    simp [preds, Region.binds, phi, MP.val, MP.box, MP.row] at hpre
    simp only [frL, Act.put, List.setIfInBounds_toArray, List.set_cons_zero, List.set_cons_succ, Nat.zero_add, Nat.reduceAdd, hpre] at hK ⊢
    have HK := Lib.hid hK
    clear hK
    refine Held.mk ?_
    go_simp
    exact HK.out _ (Below.refl _ _)
  -- 11: Op.binOp BinOp.neq 23 (Operand.tmp 71) (Operand.tmp 72) 23
  apply ls_val
  · intro x w' hb hpre K hK
    have hc := (bcell hb).1
    simp [preds, Region.binds, phi, MP.val, MP.box, MP.row] at hpre
    simp only [frL, Act.put, List.setIfInBounds_toArray, List.set_cons_zero, List.set_cons_succ, Nat.zero_add, Nat.reduceAdd, hpre] at hK ⊢
    have HK := Lib.hid hK
    clear hK
    refine Held.mk ?_
    go_simp
    exact HK.out _ (Below.refl _ _)
  -- 12: Op.pick (Operand.tmp 70) (Operand.const (Value.bool true)) (Operand.tmp 73)
  apply ls_val
  · intro x w' hb hpre K hK
    have hc := (bcell hb).1
    simp [preds, Region.binds, phi, MP.val, MP.box, MP.row] at hpre
    simp only [frL, Act.put, List.setIfInBounds_toArray, List.set_cons_zero, List.set_cons_succ, Nat.zero_add, Nat.reduceAdd, hpre] at hK ⊢
    have HK := Lib.hid hK
    clear hK
    refine Held.mk ?_
    go_simp
    exact HK.out _ (Below.refl _ _)
  -- 13: Op.move (Operand.tmp 74)
  apply ls_val
  · intro x w' hb hpre K hK
    have hc := (bcell hb).1
    simp [preds, Region.binds, phi, MP.val, MP.box, MP.row] at hpre
    simp only [frL, Act.put, List.setIfInBounds_toArray, List.set_cons_zero, List.set_cons_succ, Nat.zero_add, Nat.reduceAdd, hpre] at hK ⊢
    have HK := Lib.hid hK
    clear hK
    refine Held.mk ?_
    go_simp
    exact HK.out _ (Below.refl _ _)
  -- 14: Op.move (Operand.tmp 10)
  apply ls_val
  · intro x w' hb hpre K hK
    have hc := (bcell hb).1
    simp [preds, Region.binds, phi, MP.val, MP.box, MP.row] at hpre
    simp only [frL, Act.put, List.setIfInBounds_toArray, List.set_cons_zero, List.set_cons_succ, Nat.zero_add, Nat.reduceAdd, hpre] at hK ⊢
    have HK := Lib.hid hK
    clear hK
    refine Held.mk ?_
    go_simp
    exact HK.out _ (Below.refl _ _)
  -- 15: Op.move (Operand.tmp 12)
  apply ls_val
  · intro x w' hb hpre K hK
    have hc := (bcell hb).1
    simp [preds, Region.binds, phi, MP.val, MP.box, MP.row] at hpre
    simp only [frL, Act.put, List.setIfInBounds_toArray, List.set_cons_zero, List.set_cons_succ, Nat.zero_add, Nat.reduceAdd, hpre] at hK ⊢
    have HK := Lib.hid hK
    clear hK
    refine Held.mk ?_
    go_simp
    exact HK.out _ (Below.refl _ _)
  -- 16: Op.binOp BinOp.neq 27 (Operand.tmp 76) (Operand.tmp 77) 27
  apply ls_val
  · intro x w' hb hpre K hK
    have hc := (bcell hb).1
    simp [preds, Region.binds, phi, MP.val, MP.box, MP.row] at hpre
    simp only [frL, Act.put, List.setIfInBounds_toArray, List.set_cons_zero, List.set_cons_succ, Nat.zero_add, Nat.reduceAdd, hpre] at hK ⊢
    have HK := Lib.hid hK
    clear hK
    refine Held.mk ?_
    go_simp
    exact HK.out _ (Below.refl _ _)
  -- 17: Op.pick (Operand.tmp 75) (Operand.const (Value.bool true)) (Operand.tmp 78)
  apply ls_val
  · intro x w' hb hpre K hK
    have hc := (bcell hb).1
    simp [preds, Region.binds, phi, MP.val, MP.box, MP.row] at hpre
    simp only [frL, Act.put, List.setIfInBounds_toArray, List.set_cons_zero, List.set_cons_succ, Nat.zero_add, Nat.reduceAdd, hpre] at hK ⊢
    have HK := Lib.hid hK
    clear hK
    refine Held.mk ?_
    go_simp
    exact HK.out _ (Below.refl _ _)
  -- 18: Op.move (Operand.tmp 79)
  apply ls_val
  · intro x w' hb hpre K hK
    have hc := (bcell hb).1
    simp [preds, Region.binds, phi, MP.val, MP.box, MP.row] at hpre
    simp only [frL, Act.put, List.setIfInBounds_toArray, List.set_cons_zero, List.set_cons_succ, Nat.zero_add, Nat.reduceAdd, hpre] at hK ⊢
    have HK := Lib.hid hK
    clear hK
    refine Held.mk ?_
    go_simp
    exact HK.out _ (Below.refl _ _)
  -- 19: Op.load 23 (Operand.tmp 2)
  apply ls_val
  · intro x w' hb hpre K hK
    have hc := (bcell hb).1
    simp [preds, Region.binds, phi, MP.val, MP.box, MP.row] at hpre
    simp only [frL, Act.put, List.setIfInBounds_toArray, List.set_cons_zero, List.set_cons_succ, Nat.zero_add, Nat.reduceAdd, hpre] at hK ⊢
    have HK := Lib.hid hK
    clear hK
    refine Held.mk ?_
    go_simp
    exact HK.out _ (Below.refl _ _)
  -- 20: Op.load 23 (Operand.tmp 3)
  apply ls_val
  · intro x w' hb hpre K hK
    have hc := (bcell hb).1
    simp [preds, Region.binds, phi, MP.val, MP.box, MP.row] at hpre
    simp only [frL, Act.put, List.setIfInBounds_toArray, List.set_cons_zero, List.set_cons_succ, Nat.zero_add, Nat.reduceAdd, hpre] at hK ⊢
    have HK := Lib.hid hK
    clear hK
    refine Held.mk ?_
    go_simp
    exact HK.out _ (Below.refl _ _)
  -- 21: Op.call { callee := Callee.value (Operand.func 10), args := #[Operand.tmp 81, Operand.tmp 
  apply ls_val
  · intro x w' hb hpre K hK
    have hc := (bcell hb).1
    simp [preds, Region.binds, phi, MP.val, MP.box, MP.row] at hpre
    simp only [frL, Act.put, List.setIfInBounds_toArray, List.set_cons_zero, List.set_cons_succ, Nat.zero_add, Nat.reduceAdd, hpre] at hK ⊢
    have HK := Lib.hid hK
    clear hK
    refine Held.mk ?_
    go_simp
    (with_reducible refine (C1.out _).mono ?_)
    rintro e w1 ⟨rfl, hb1⟩
    dsimp only
    exact HK.out _ hb1
  -- 22: Op.load 23 (Operand.tmp 3)
  apply ls_val
  · intro x w' hb hpre K hK
    have hc := (bcell hb).1
    simp [preds, Region.binds, phi, MP.val, MP.box, MP.row] at hpre
    simp only [frL, Act.put, List.setIfInBounds_toArray, List.set_cons_zero, List.set_cons_succ, Nat.zero_add, Nat.reduceAdd, hpre] at hK ⊢
    have HK := Lib.hid hK
    clear hK
    refine Held.mk ?_
    go_simp
    exact HK.out _ (Below.refl _ _)
  -- 23: Op.load 23 (Operand.tmp 2)
  apply ls_val
  · intro x w' hb hpre K hK
    have hc := (bcell hb).1
    simp [preds, Region.binds, phi, MP.val, MP.box, MP.row] at hpre
    simp only [frL, Act.put, List.setIfInBounds_toArray, List.set_cons_zero, List.set_cons_succ, Nat.zero_add, Nat.reduceAdd, hpre] at hK ⊢
    have HK := Lib.hid hK
    clear hK
    refine Held.mk ?_
    go_simp
    exact HK.out _ (Below.refl _ _)
  -- 24: Op.call { callee := Callee.value (Operand.func 10), args := #[Operand.tmp 84, Operand.tmp 
  apply ls_val
  · intro x w' hb hpre K hK
    have hc := (bcell hb).1
    simp [preds, Region.binds, phi, MP.val, MP.box, MP.row] at hpre
    simp only [frL, Act.put, List.setIfInBounds_toArray, List.set_cons_zero, List.set_cons_succ, Nat.zero_add, Nat.reduceAdd, hpre] at hK ⊢
    have HK := Lib.hid hK
    clear hK
    refine Held.mk ?_
    go_simp
    (with_reducible refine (C2.out _).mono ?_)
    rintro e w1 ⟨rfl, hb1⟩
    dsimp only
    exact HK.out _ hb1
  -- 25: Op.unOp UnOp.neg 3 (Operand.tmp 86)
  apply ls_val
  · intro x w' hb hpre K hK
    have hc := (bcell hb).1
    simp [preds, Region.binds, phi, MP.val, MP.box, MP.row] at hpre
    simp only [frL, Act.put, List.setIfInBounds_toArray, List.set_cons_zero, List.set_cons_succ, Nat.zero_add, Nat.reduceAdd, hpre] at hK ⊢
    have HK := Lib.hid hK
    clear hK
    refine Held.mk ?_
    go_simp
    exact HK.out _ (Below.refl _ _)
  -- 26: Op.binOp BinOp.neq 3 (Operand.tmp 83) (Operand.tmp 87) 3
  apply ls_val
  · intro x w' hb hpre K hK
    have hc := (bcell hb).1
    simp [preds, Region.binds, phi, MP.val, MP.box, MP.row] at hpre
    simp only [frL, Act.put, List.setIfInBounds_toArray, List.set_cons_zero, List.set_cons_succ, Nat.zero_add, Nat.reduceAdd, hpre] at hK ⊢
    have HK := Lib.hid hK
    clear hK
    refine Held.mk ?_
    go_simp
    exact HK.out _ (Below.refl _ _)
  -- 27: Op.pick (Operand.tmp 80) (Operand.const (Value.bool true)) (Operand.tmp 88)
  apply ls_val
  · intro x w' hb hpre K hK
    have hc := (bcell hb).1
    simp [preds, Region.binds, phi, MP.val, MP.box, MP.row] at hpre
    simp only [frL, Act.put, List.setIfInBounds_toArray, List.set_cons_zero, List.set_cons_succ, Nat.zero_add, Nat.reduceAdd, hpre] at hK ⊢
    have HK := Lib.hid hK
    clear hK
    refine Held.mk ?_
    go_simp
    exact HK.out _ (Below.refl _ _)
  -- 28: Op.move (Operand.tmp 89)
  apply ls_val
  · intro x w' hb hpre K hK
    have hc := (bcell hb).1
    simp [preds, Region.binds, phi, MP.val, MP.box, MP.row] at hpre
    simp only [frL, Act.put, List.setIfInBounds_toArray, List.set_cons_zero, List.set_cons_succ, Nat.zero_add, Nat.reduceAdd, hpre] at hK ⊢
    have HK := Lib.hid hK
    clear hK
    refine Held.mk ?_
    go_simp
    exact HK.out _ (Below.refl _ _)
  -- 29: Op.load 23 (Operand.tmp 2)
  apply ls_val
  · intro x w' hb hpre K hK
    have hc := (bcell hb).1
    simp [preds, Region.binds, phi, MP.val, MP.box, MP.row] at hpre
    simp only [frL, Act.put, List.setIfInBounds_toArray, List.set_cons_zero, List.set_cons_succ, Nat.zero_add, Nat.reduceAdd, hpre] at hK ⊢
    have HK := Lib.hid hK
    clear hK
    refine Held.mk ?_
    go_simp
    exact HK.out _ (Below.refl _ _)
  -- 30: Op.load 23 (Operand.tmp 3)
  apply ls_val
  · intro x w' hb hpre K hK
    have hc := (bcell hb).1
    simp [preds, Region.binds, phi, MP.val, MP.box, MP.row] at hpre
    simp only [frL, Act.put, List.setIfInBounds_toArray, List.set_cons_zero, List.set_cons_succ, Nat.zero_add, Nat.reduceAdd, hpre] at hK ⊢
    have HK := Lib.hid hK
    clear hK
    refine Held.mk ?_
    go_simp
    exact HK.out _ (Below.refl _ _)
  -- 31: Op.call { callee := Callee.value (Operand.func 10), args := #[Operand.tmp 91, Operand.tmp 
  apply ls_val
  · intro x w' hb hpre K hK
    have hc := (bcell hb).1
    simp [preds, Region.binds, phi, MP.val, MP.box, MP.row] at hpre
    simp only [frL, Act.put, List.setIfInBounds_toArray, List.set_cons_zero, List.set_cons_succ, Nat.zero_add, Nat.reduceAdd, hpre] at hK ⊢
    have HK := Lib.hid hK
    clear hK
    refine Held.mk ?_
    go_simp
    (with_reducible refine (C1.out _).mono ?_)
    rintro e w1 ⟨rfl, hb1⟩
    dsimp only
    exact HK.out _ hb1
  -- 32: Op.binOp BinOp.eql 3 (Operand.tmp 93) (Operand.const (Value.int IntKind.i64 0)) 3
  apply ls_val
  · intro x w' hb hpre K hK
    have hc := (bcell hb).1
    simp [preds, Region.binds, phi, MP.val, MP.box, MP.row] at hpre
    simp only [frL, Act.put, List.setIfInBounds_toArray, List.set_cons_zero, List.set_cons_succ, Nat.zero_add, Nat.reduceAdd, hpre] at hK ⊢
    have HK := Lib.hid hK
    clear hK
    refine Held.mk ?_
    go_simp
    exact HK.out _ (Below.refl _ _)
  -- 33: Op.load 23 (Operand.tmp 2)
  apply ls_val
  · intro x w' hb hpre K hK
    have hc := (bcell hb).1
    simp [preds, Region.binds, phi, MP.val, MP.box, MP.row] at hpre
    simp only [frL, Act.put, List.setIfInBounds_toArray, List.set_cons_zero, List.set_cons_succ, Nat.zero_add, Nat.reduceAdd, hpre] at hK ⊢
    have HK := Lib.hid hK
    clear hK
    refine Held.mk ?_
    go_simp
    exact HK.out _ (Below.refl _ _)
  -- 34: Op.load 23 (Operand.tmp 3)
  apply ls_val
  · intro x w' hb hpre K hK
    have hc := (bcell hb).1
    simp [preds, Region.binds, phi, MP.val, MP.box, MP.row] at hpre
    simp only [frL, Act.put, List.setIfInBounds_toArray, List.set_cons_zero, List.set_cons_succ, Nat.zero_add, Nat.reduceAdd, hpre] at hK ⊢
    have HK := Lib.hid hK
    clear hK
    refine Held.mk ?_
    go_simp
    exact HK.out _ (Below.refl _ _)
  -- 35: Op.binOp BinOp.eql 23 (Operand.tmp 95) (Operand.tmp 96) 23
  refine ls_val (v := .bool (decide (n = k) && decide ((s' : Int) = (t' : Int)))) ?_ ?_
  · intro x w' hb hpre K hK
    have hc := (bcell hb).1
    simp [preds, Region.binds, phi, MP.val, MP.box, MP.row] at hpre
    simp only [frL, Act.put, List.setIfInBounds_toArray, List.set_cons_zero, List.set_cons_succ, Nat.zero_add, Nat.reduceAdd, hpre] at hK ⊢
    have HK := Lib.hid hK
    clear hK
    refine Held.mk ?_
    go_simp
    rw [res_two]
    exact HK.out _ (Below.refl _ _)
  -- 36: Op.binOp BinOp.neq 4 (Operand.tmp 94) (Operand.tmp 97) 4
  refine ls_val (v := .bool false) ?_ ?_
  · intro x w' hb hpre K hK
    have hc := (bcell hb).1
    simp [preds, Region.binds, phi, MP.val, MP.box, MP.row] at hpre
    simp only [frL, Act.put, List.setIfInBounds_toArray, List.set_cons_zero, List.set_cons_succ, Nat.zero_add, Nat.reduceAdd, hpre] at hK ⊢
    have HK := Lib.hid hK
    clear hK
    refine Held.mk ?_
    go_simp
    rw [eq_two]
    exact HK.out _ (Below.refl _ _)
  -- 37: Op.pick (Operand.tmp 90) (Operand.const (Value.bool true)) (Operand.tmp 98)
  apply ls_val
  · intro x w' hb hpre K hK
    have hc := (bcell hb).1
    simp [preds, Region.binds, phi, MP.val, MP.box, MP.row] at hpre
    simp only [frL, Act.put, List.setIfInBounds_toArray, List.set_cons_zero, List.set_cons_succ, Nat.zero_add, Nat.reduceAdd, hpre] at hK ⊢
    have HK := Lib.hid hK
    clear hK
    refine Held.mk ?_
    go_simp
    exact HK.out _ (Below.refl _ _)
  intro x w' hb hp
  simp only [List.cons_append, List.nil_append, phis, MP.val, MP.box, MP.row, frL, Act.put, List.setIfInBounds_toArray, List.set_cons_zero, List.set_cons_succ, Nat.zero_add, Nat.reduceAdd] at hp ⊢
  obtain ⟨h0, h1, h2, h3, h4, h5, h6, h7, h8, h9, h10, h11, h12, h13, h14, h15, h16, h17, h18, h19, h20, h21, h22, h23, h24, h25, h26, h27, h28, h29, h30, h31, h32, h33, h34, h35, h36, h37, -⟩ := hp
  simp only [h0, h1, h2, h3, h4, h5, h6, h7, h8, h9, h10, h11, h12, h13, h14, h15, h16, h17, h18, h19, h20, h21, h22, h23, h24, h25, h26, h27, h28, h29, h30, h31, h32, h33, h34, h35, h36, h37]
  clear h0 h1 h2 h3 h4 h5 h6 h7 h8 h9 h10 h11 h12 h13 h14 h15 h16 h17 h18 h19 h20 h21 h22 h23 h24 h25 h26 h27 h28 h29 h30 h31 h32 h33 h34 h35 h36 h37
  have hw' : Below w.heap.size w w' := hw8.trans (hb.mono hw8.size)
  have Aw' := Aw8.below hb kAw8
  have Bw' := Bw8.below hb kBw8
  clear hb cA0 cA1 fA0 fA1 kAw8 Aw8 cB0 cB1 fB0 fB1 kBw8 Bw8 cX0 cX1 fX0 fX1 kXw8 Xw8 cY0 cY1 fY0 fY1 kYw8 Yw8 cZ0 cZ1 fZ0 fZ1 kZw8 Zw8 cV0 cV1 fV0 fV1 kVw8 Vw8
  have kAw' : w.heap.size < w'.heap.size := Aw'.lt
  have kBw' : w.heap.size + 1 < w'.heap.size := Bw'.lt
  obtain ⟨cA0, cA1, fA0, fA1⟩ := Aw'.two
  obtain ⟨cB0, cB1, fB0, fB1⟩ := Bw'.two
  clear A1 A2 M1 M2 C1 C2 RA RB CW hz hc1
  rcases QS.out with hs | ⟨d1, d2', hs, hd, -⟩
  · rw [hs] at S1
    clear hs
    cases ek : (k == 0)
    · have hk : k ≠ 0 := by simpa using ek
      obtain ⟨u, v', ho, hv, -, hsg⟩ := QO.out hk
      rw [ho] at O1
      obtain ⟨v, rfl⟩ := rt_nat hv
      cases eu : (u == 0)
      · have hsg' := hsg (by simpa using eu)
        have eu2 : ¬ u = 0 := by simpa using eu
        have eu3 : (u != 0) = true := by simpa using eu
        clear hsg
        rcases QI.out hk with hi | ⟨q, hi, -, hq⟩
        · rw [hi] at I1
          clear QI QM QO QB QS hi
          go_wp2_with (first
            | (go_at_call 23
               with_reducible refine (S1.out _).mono ?_
               rintro e w10 ⟨rfl, hb⟩
               have hw10 : Below w.heap.size w w10 := hw'.trans (hb.mono hw'.size)
               have Aw10 := Aw'.below hb Aw'.lt
               have Bw10 := Bw'.below hb Bw'.lt
               clear hb cB0 cB1 fB0 fB1 cA0 cA1 fA0 fA1 Aw' Bw'
               obtain ⟨cA0, cA1, fA0, fA1⟩ := Aw10.two
               have kAw10 : w.heap.size < w10.heap.size := Aw10.lt
               obtain ⟨cB0, cB1, fB0, fB1⟩ := Bw10.two
               have kBw10 : (w.heap.size + 1) < w10.heap.size := Bw10.lt)
            | (go_at_call 27
               with_reducible refine (I1.out _).mono ?_
               rintro e w12 ⟨rfl, hb⟩
               have hw12 : Below w.heap.size w w12 := (hw10.alloc hw10.size _).trans (hb.mono (by have := hw10.size; simp; omega))
               have Aw12 := (Aw10.alloc _).below hb (by have := Aw10.lt; simp; omega)
               have Bw12 := (Bw10.alloc _).below hb (by have := Bw10.lt; simp; omega)
               clear hb cB0 cB1 fB0 fB1 cA0 cA1 fA0 fA1 Aw10 Bw10
               obtain ⟨cA0, cA1, fA0, fA1⟩ := Aw12.two
               have kAw12 : w.heap.size < w12.heap.size := Aw12.lt
               obtain ⟨cB0, cB1, fB0, fB1⟩ := Bw12.two
               have kBw12 : (w.heap.size + 1) < w12.heap.size := Bw12.lt)
            | (go_at_call 28
               with_reducible refine (O1.out _).mono ?_
               rintro e w13 ⟨rfl, hb⟩
               have hw13 : Below w.heap.size w w13 := (hw12.alloc hw12.size _).trans (hb.mono (by have := hw12.size; simp; omega))
               have Aw13 := (Aw12.alloc _).below hb (by have := Aw12.lt; simp; omega)
               have Bw13 := (Bw12.alloc _).below hb (by have := Bw12.lt; simp; omega)
               have Qw13 : Blk w13 w12.heap.size #[.int .i64 0, .int .i64 0] 23 := (Blk.here rfl rfl).below hb (by simp)
               clear hb cB0 cB1 fB0 fB1 cA0 cA1 fA0 fA1 Aw12 Bw12
               obtain ⟨cA0, cA1, fA0, fA1⟩ := Aw13.two
               have kAw13 : w.heap.size < w13.heap.size := Aw13.lt
               obtain ⟨cB0, cB1, fB0, fB1⟩ := Bw13.two
               have kBw13 : (w.heap.size + 1) < w13.heap.size := Bw13.lt
               obtain ⟨cQ0, cQ1, fQ0, fQ1⟩ := Qw13.two
               have kQw13 : w12.heap.size < w13.heap.size := Qw13.lt))
          refine bodyPost_ret (v := .bool true) (by simp [results, Tryz.results7, go_sem]) rfl ⟨rfl, ?_⟩
          exact hw13.alloc hw13.size _
        · rw [hi] at I1
          have hmb := QM.out q u v hk hi ho
          have M3 := Lib.hid (fun w => mul_any q k 0 t' hq HB.out w)
          have hm2 : mulF q ((0 : Nat) : Int) k t' = (0, 0, 53) ∨ ∃ p1 p2, mulF q ((0 : Nat) : Int) k t' = (p1, p2, 0) ∧ Rt p1 p2 := by
            unfold mulF
            rcases fitZ_cases (q * k) ((((0 : Nat) : Int) + (t' : Int)).toNat) with h | ⟨p1, p2, h, h', -⟩
            · exact .inl h
            · exact .inr ⟨p1, p2, h, h'⟩
          clear QI QM QO QB QS hi
          rcases hm2 with hm | ⟨p1, p2', hm, hp⟩
          · rw [hm] at M3
            simp only [Int.natCast_zero] at M3
            clear hmb hm
            go_wp2_with (first
              | (go_at_call 23
                 with_reducible refine (S1.out _).mono ?_
                 rintro e w10 ⟨rfl, hb⟩
                 have hw10 : Below w.heap.size w w10 := hw'.trans (hb.mono hw'.size)
                 have Aw10 := Aw'.below hb Aw'.lt
                 have Bw10 := Bw'.below hb Bw'.lt
                 clear hb cB0 cB1 fB0 fB1 cA0 cA1 fA0 fA1 Aw' Bw'
                 obtain ⟨cA0, cA1, fA0, fA1⟩ := Aw10.two
                 have kAw10 : w.heap.size < w10.heap.size := Aw10.lt
                 obtain ⟨cB0, cB1, fB0, fB1⟩ := Bw10.two
                 have kBw10 : (w.heap.size + 1) < w10.heap.size := Bw10.lt)
              | (go_at_call 27
                 with_reducible refine (I1.out _).mono ?_
                 rintro e w12 ⟨rfl, hb⟩
                 have hw12 : Below w.heap.size w w12 := (hw10.alloc hw10.size _).trans (hb.mono (by have := hw10.size; simp; omega))
                 have Aw12 := (Aw10.alloc _).below hb (by have := Aw10.lt; simp; omega)
                 have Bw12 := (Bw10.alloc _).below hb (by have := Bw10.lt; simp; omega)
                 clear hb cB0 cB1 fB0 fB1 cA0 cA1 fA0 fA1 Aw10 Bw10
                 obtain ⟨cA0, cA1, fA0, fA1⟩ := Aw12.two
                 have kAw12 : w.heap.size < w12.heap.size := Aw12.lt
                 obtain ⟨cB0, cB1, fB0, fB1⟩ := Bw12.two
                 have kBw12 : (w.heap.size + 1) < w12.heap.size := Bw12.lt)
              | (go_at_call 28
                 with_reducible refine (O1.out _).mono ?_
                 rintro e w13 ⟨rfl, hb⟩
                 have hw13 : Below w.heap.size w w13 := (hw12.alloc hw12.size _).trans (hb.mono (by have := hw12.size; simp; omega))
                 have Aw13 := (Aw12.alloc _).below hb (by have := Aw12.lt; simp; omega)
                 have Bw13 := (Bw12.alloc _).below hb (by have := Bw12.lt; simp; omega)
                 have Qw13 : Blk w13 w12.heap.size #[.int .i64 q, .int .i64 0] 23 := (Blk.here rfl rfl).below hb (by simp)
                 clear hb cB0 cB1 fB0 fB1 cA0 cA1 fA0 fA1 Aw12 Bw12
                 obtain ⟨cA0, cA1, fA0, fA1⟩ := Aw13.two
                 have kAw13 : w.heap.size < w13.heap.size := Aw13.lt
                 obtain ⟨cB0, cB1, fB0, fB1⟩ := Bw13.two
                 have kBw13 : (w.heap.size + 1) < w13.heap.size := Bw13.lt
                 obtain ⟨cQ0, cQ1, fQ0, fQ1⟩ := Qw13.two
                 have kQw13 : w12.heap.size < w13.heap.size := Qw13.lt)
              | (go_at_call 25
                 with_reducible refine (M3.out _).mono ?_
                 rintro e w14 ⟨rfl, hb⟩
                 have hw14 : Below w.heap.size w w14 := (hw13.alloc hw13.size _).trans (hb.mono (by have := hw13.size; simp; omega))
                 have Aw14 := (Aw13.alloc _).below hb (by have := Aw13.lt; simp; omega)
                 have Bw14 := (Bw13.alloc _).below hb (by have := Bw13.lt; simp; omega)
                 have Qw14 := (Qw13.alloc _).below hb (by have := Qw13.lt; simp; omega)
                 have Rw14 : Blk w14 w13.heap.size #[.int .i64 u, .int .i64 (v : Int)] 23 := (Blk.here rfl rfl).below hb (by simp)
                 clear hb cQ0 cQ1 fQ0 fQ1 cB0 cB1 fB0 fB1 cA0 cA1 fA0 fA1 Aw13 Bw13 Qw13
                 obtain ⟨cA0, cA1, fA0, fA1⟩ := Aw14.two
                 have kAw14 : w.heap.size < w14.heap.size := Aw14.lt
                 obtain ⟨cB0, cB1, fB0, fB1⟩ := Bw14.two
                 have kBw14 : (w.heap.size + 1) < w14.heap.size := Bw14.lt
                 obtain ⟨cQ0, cQ1, fQ0, fQ1⟩ := Qw14.two
                 have kQw14 : w12.heap.size < w14.heap.size := Qw14.lt
                 obtain ⟨cR0, cR1, fR0, fR1⟩ := Rw14.two
                 have kRw14 : w13.heap.size < w14.heap.size := Rw14.lt))
            refine bodyPost_ret (v := .bool true) (by simp [results, Tryz.results7, go_sem]) rfl ⟨rfl, ?_⟩
            exact hw14.alloc hw14.size _
          · rw [hm] at M3
            have hfin := hmb p1 p2' hm
            obtain ⟨p2, rfl⟩ := rt_nat hp
            have A4 := Lib.hid (fun w => add_any p1 u p2 v hp hv w)
            rw [hfin] at A4
            simp only [Int.natCast_zero] at M3
            clear hmb hm hfin
            go_wp2_with (first
              | (go_at_call 23
                 with_reducible refine (S1.out _).mono ?_
                 rintro e w10 ⟨rfl, hb⟩
                 have hw10 : Below w.heap.size w w10 := hw'.trans (hb.mono hw'.size)
                 have Aw10 := Aw'.below hb Aw'.lt
                 have Bw10 := Bw'.below hb Bw'.lt
                 clear hb cB0 cB1 fB0 fB1 cA0 cA1 fA0 fA1 Aw' Bw'
                 obtain ⟨cA0, cA1, fA0, fA1⟩ := Aw10.two
                 have kAw10 : w.heap.size < w10.heap.size := Aw10.lt
                 obtain ⟨cB0, cB1, fB0, fB1⟩ := Bw10.two
                 have kBw10 : (w.heap.size + 1) < w10.heap.size := Bw10.lt)
              | (go_at_call 27
                 with_reducible refine (I1.out _).mono ?_
                 rintro e w12 ⟨rfl, hb⟩
                 have hw12 : Below w.heap.size w w12 := (hw10.alloc hw10.size _).trans (hb.mono (by have := hw10.size; simp; omega))
                 have Aw12 := (Aw10.alloc _).below hb (by have := Aw10.lt; simp; omega)
                 have Bw12 := (Bw10.alloc _).below hb (by have := Bw10.lt; simp; omega)
                 clear hb cB0 cB1 fB0 fB1 cA0 cA1 fA0 fA1 Aw10 Bw10
                 obtain ⟨cA0, cA1, fA0, fA1⟩ := Aw12.two
                 have kAw12 : w.heap.size < w12.heap.size := Aw12.lt
                 obtain ⟨cB0, cB1, fB0, fB1⟩ := Bw12.two
                 have kBw12 : (w.heap.size + 1) < w12.heap.size := Bw12.lt)
              | (go_at_call 28
                 with_reducible refine (O1.out _).mono ?_
                 rintro e w13 ⟨rfl, hb⟩
                 have hw13 : Below w.heap.size w w13 := (hw12.alloc hw12.size _).trans (hb.mono (by have := hw12.size; simp; omega))
                 have Aw13 := (Aw12.alloc _).below hb (by have := Aw12.lt; simp; omega)
                 have Bw13 := (Bw12.alloc _).below hb (by have := Bw12.lt; simp; omega)
                 have Qw13 : Blk w13 w12.heap.size #[.int .i64 q, .int .i64 0] 23 := (Blk.here rfl rfl).below hb (by simp)
                 clear hb cB0 cB1 fB0 fB1 cA0 cA1 fA0 fA1 Aw12 Bw12
                 obtain ⟨cA0, cA1, fA0, fA1⟩ := Aw13.two
                 have kAw13 : w.heap.size < w13.heap.size := Aw13.lt
                 obtain ⟨cB0, cB1, fB0, fB1⟩ := Bw13.two
                 have kBw13 : (w.heap.size + 1) < w13.heap.size := Bw13.lt
                 obtain ⟨cQ0, cQ1, fQ0, fQ1⟩ := Qw13.two
                 have kQw13 : w12.heap.size < w13.heap.size := Qw13.lt)
              | (go_at_call 25
                 with_reducible refine (M3.out _).mono ?_
                 rintro e w14 ⟨rfl, hb⟩
                 have hw14 : Below w.heap.size w w14 := (hw13.alloc hw13.size _).trans (hb.mono (by have := hw13.size; simp; omega))
                 have Aw14 := (Aw13.alloc _).below hb (by have := Aw13.lt; simp; omega)
                 have Bw14 := (Bw13.alloc _).below hb (by have := Bw13.lt; simp; omega)
                 have Qw14 := (Qw13.alloc _).below hb (by have := Qw13.lt; simp; omega)
                 have Rw14 : Blk w14 w13.heap.size #[.int .i64 u, .int .i64 (v : Int)] 23 := (Blk.here rfl rfl).below hb (by simp)
                 clear hb cQ0 cQ1 fQ0 fQ1 cB0 cB1 fB0 fB1 cA0 cA1 fA0 fA1 Aw13 Bw13 Qw13
                 obtain ⟨cA0, cA1, fA0, fA1⟩ := Aw14.two
                 have kAw14 : w.heap.size < w14.heap.size := Aw14.lt
                 obtain ⟨cB0, cB1, fB0, fB1⟩ := Bw14.two
                 have kBw14 : (w.heap.size + 1) < w14.heap.size := Bw14.lt
                 obtain ⟨cQ0, cQ1, fQ0, fQ1⟩ := Qw14.two
                 have kQw14 : w12.heap.size < w14.heap.size := Qw14.lt
                 obtain ⟨cR0, cR1, fR0, fR1⟩ := Rw14.two
                 have kRw14 : w13.heap.size < w14.heap.size := Rw14.lt)
              | (go_at_call 11
                 with_reducible refine (A4.out _).mono ?_
                 rintro e w15 ⟨rfl, hb⟩
                 have hw15 : Below w.heap.size w w15 := (hw14.alloc hw14.size _).trans (hb.mono (by have := hw14.size; simp; omega))
                 have Aw15 := (Aw14.alloc _).below hb (by have := Aw14.lt; simp; omega)
                 have Qw15 := (Qw14.alloc _).below hb (by have := Qw14.lt; simp; omega)
                 clear hb cQ0 cQ1 fQ0 fQ1 cB0 cB1 fB0 fB1 cR0 cR1 fR0 fR1 cA0 cA1 fA0 fA1 Aw14 Bw14 Qw14 Rw14
                 obtain ⟨cA0, cA1, fA0, fA1⟩ := Aw15.two
                 have kAw15 : w.heap.size < w15.heap.size := Aw15.lt
                 obtain ⟨cQ0, cQ1, fQ0, fQ1⟩ := Qw15.two
                 have kQw15 : w12.heap.size < w15.heap.size := Qw15.lt))
            refine bodyPost_ret (v := .bool true) (by simp [results, Tryz.results7, go_sem]) rfl ⟨rfl, ?_⟩
            exact hw15.alloc hw15.size _
      · clear hsg
        obtain rfl : u = 0 := by simpa using eu
        rcases QI.out hk with hi | ⟨q, hi, -, hq⟩
        · rw [hi] at I1
          clear QI QM QO QB QS hi
          go_wp2_with (first
            | (go_at_call 23
               with_reducible refine (S1.out _).mono ?_
               rintro e w10 ⟨rfl, hb⟩
               have hw10 : Below w.heap.size w w10 := hw'.trans (hb.mono hw'.size)
               have Aw10 := Aw'.below hb Aw'.lt
               have Bw10 := Bw'.below hb Bw'.lt
               clear hb cB0 cB1 fB0 fB1 cA0 cA1 fA0 fA1 Aw' Bw'
               obtain ⟨cA0, cA1, fA0, fA1⟩ := Aw10.two
               have kAw10 : w.heap.size < w10.heap.size := Aw10.lt
               obtain ⟨cB0, cB1, fB0, fB1⟩ := Bw10.two
               have kBw10 : (w.heap.size + 1) < w10.heap.size := Bw10.lt)
            | (go_at_call 27
               with_reducible refine (I1.out _).mono ?_
               rintro e w12 ⟨rfl, hb⟩
               have hw12 : Below w.heap.size w w12 := (hw10.alloc hw10.size _).trans (hb.mono (by have := hw10.size; simp; omega))
               have Aw12 := (Aw10.alloc _).below hb (by have := Aw10.lt; simp; omega)
               have Bw12 := (Bw10.alloc _).below hb (by have := Bw10.lt; simp; omega)
               clear hb cB0 cB1 fB0 fB1 cA0 cA1 fA0 fA1 Aw10 Bw10
               obtain ⟨cA0, cA1, fA0, fA1⟩ := Aw12.two
               have kAw12 : w.heap.size < w12.heap.size := Aw12.lt
               obtain ⟨cB0, cB1, fB0, fB1⟩ := Bw12.two
               have kBw12 : (w.heap.size + 1) < w12.heap.size := Bw12.lt)
            | (go_at_call 28
               with_reducible refine (O1.out _).mono ?_
               rintro e w13 ⟨rfl, hb⟩
               have hw13 : Below w.heap.size w w13 := (hw12.alloc hw12.size _).trans (hb.mono (by have := hw12.size; simp; omega))
               have Aw13 := (Aw12.alloc _).below hb (by have := Aw12.lt; simp; omega)
               have Bw13 := (Bw12.alloc _).below hb (by have := Bw12.lt; simp; omega)
               have Qw13 : Blk w13 w12.heap.size #[.int .i64 0, .int .i64 0] 23 := (Blk.here rfl rfl).below hb (by simp)
               clear hb cB0 cB1 fB0 fB1 cA0 cA1 fA0 fA1 Aw12 Bw12
               obtain ⟨cA0, cA1, fA0, fA1⟩ := Aw13.two
               have kAw13 : w.heap.size < w13.heap.size := Aw13.lt
               obtain ⟨cB0, cB1, fB0, fB1⟩ := Bw13.two
               have kBw13 : (w.heap.size + 1) < w13.heap.size := Bw13.lt
               obtain ⟨cQ0, cQ1, fQ0, fQ1⟩ := Qw13.two
               have kQw13 : w12.heap.size < w13.heap.size := Qw13.lt))
          refine bodyPost_ret (v := .bool true) (by simp [results, Tryz.results7, go_sem]) rfl ⟨rfl, ?_⟩
          exact hw13.alloc hw13.size _
        · rw [hi] at I1
          have hmb := QM.out q 0 v hk hi ho
          have M3 := Lib.hid (fun w => mul_any q k 0 t' hq HB.out w)
          have hm2 : mulF q ((0 : Nat) : Int) k t' = (0, 0, 53) ∨ ∃ p1 p2, mulF q ((0 : Nat) : Int) k t' = (p1, p2, 0) ∧ Rt p1 p2 := by
            unfold mulF
            rcases fitZ_cases (q * k) ((((0 : Nat) : Int) + (t' : Int)).toNat) with h | ⟨p1, p2, h, h', -⟩
            · exact .inl h
            · exact .inr ⟨p1, p2, h, h'⟩
          clear QI QM QO QB QS hi
          rcases hm2 with hm | ⟨p1, p2', hm, hp⟩
          · rw [hm] at M3
            simp only [Int.natCast_zero] at M3
            clear hmb hm
            go_wp2_with (first
              | (go_at_call 23
                 with_reducible refine (S1.out _).mono ?_
                 rintro e w10 ⟨rfl, hb⟩
                 have hw10 : Below w.heap.size w w10 := hw'.trans (hb.mono hw'.size)
                 have Aw10 := Aw'.below hb Aw'.lt
                 have Bw10 := Bw'.below hb Bw'.lt
                 clear hb cB0 cB1 fB0 fB1 cA0 cA1 fA0 fA1 Aw' Bw'
                 obtain ⟨cA0, cA1, fA0, fA1⟩ := Aw10.two
                 have kAw10 : w.heap.size < w10.heap.size := Aw10.lt
                 obtain ⟨cB0, cB1, fB0, fB1⟩ := Bw10.two
                 have kBw10 : (w.heap.size + 1) < w10.heap.size := Bw10.lt)
              | (go_at_call 27
                 with_reducible refine (I1.out _).mono ?_
                 rintro e w12 ⟨rfl, hb⟩
                 have hw12 : Below w.heap.size w w12 := (hw10.alloc hw10.size _).trans (hb.mono (by have := hw10.size; simp; omega))
                 have Aw12 := (Aw10.alloc _).below hb (by have := Aw10.lt; simp; omega)
                 have Bw12 := (Bw10.alloc _).below hb (by have := Bw10.lt; simp; omega)
                 clear hb cB0 cB1 fB0 fB1 cA0 cA1 fA0 fA1 Aw10 Bw10
                 obtain ⟨cA0, cA1, fA0, fA1⟩ := Aw12.two
                 have kAw12 : w.heap.size < w12.heap.size := Aw12.lt
                 obtain ⟨cB0, cB1, fB0, fB1⟩ := Bw12.two
                 have kBw12 : (w.heap.size + 1) < w12.heap.size := Bw12.lt)
              | (go_at_call 28
                 with_reducible refine (O1.out _).mono ?_
                 rintro e w13 ⟨rfl, hb⟩
                 have hw13 : Below w.heap.size w w13 := (hw12.alloc hw12.size _).trans (hb.mono (by have := hw12.size; simp; omega))
                 have Aw13 := (Aw12.alloc _).below hb (by have := Aw12.lt; simp; omega)
                 have Bw13 := (Bw12.alloc _).below hb (by have := Bw12.lt; simp; omega)
                 have Qw13 : Blk w13 w12.heap.size #[.int .i64 q, .int .i64 0] 23 := (Blk.here rfl rfl).below hb (by simp)
                 clear hb cB0 cB1 fB0 fB1 cA0 cA1 fA0 fA1 Aw12 Bw12
                 obtain ⟨cA0, cA1, fA0, fA1⟩ := Aw13.two
                 have kAw13 : w.heap.size < w13.heap.size := Aw13.lt
                 obtain ⟨cB0, cB1, fB0, fB1⟩ := Bw13.two
                 have kBw13 : (w.heap.size + 1) < w13.heap.size := Bw13.lt
                 obtain ⟨cQ0, cQ1, fQ0, fQ1⟩ := Qw13.two
                 have kQw13 : w12.heap.size < w13.heap.size := Qw13.lt)
              | (go_at_call 25
                 with_reducible refine (M3.out _).mono ?_
                 rintro e w14 ⟨rfl, hb⟩
                 have hw14 : Below w.heap.size w w14 := (hw13.alloc hw13.size _).trans (hb.mono (by have := hw13.size; simp; omega))
                 have Aw14 := (Aw13.alloc _).below hb (by have := Aw13.lt; simp; omega)
                 have Bw14 := (Bw13.alloc _).below hb (by have := Bw13.lt; simp; omega)
                 have Qw14 := (Qw13.alloc _).below hb (by have := Qw13.lt; simp; omega)
                 have Rw14 : Blk w14 w13.heap.size #[.int .i64 0, .int .i64 (v : Int)] 23 := (Blk.here rfl rfl).below hb (by simp)
                 clear hb cQ0 cQ1 fQ0 fQ1 cB0 cB1 fB0 fB1 cA0 cA1 fA0 fA1 Aw13 Bw13 Qw13
                 obtain ⟨cA0, cA1, fA0, fA1⟩ := Aw14.two
                 have kAw14 : w.heap.size < w14.heap.size := Aw14.lt
                 obtain ⟨cB0, cB1, fB0, fB1⟩ := Bw14.two
                 have kBw14 : (w.heap.size + 1) < w14.heap.size := Bw14.lt
                 obtain ⟨cQ0, cQ1, fQ0, fQ1⟩ := Qw14.two
                 have kQw14 : w12.heap.size < w14.heap.size := Qw14.lt
                 obtain ⟨cR0, cR1, fR0, fR1⟩ := Rw14.two
                 have kRw14 : w13.heap.size < w14.heap.size := Rw14.lt))
            refine bodyPost_ret (v := .bool true) (by simp [results, Tryz.results7, go_sem]) rfl ⟨rfl, ?_⟩
            exact hw14.alloc hw14.size _
          · rw [hm] at M3
            have hfin := hmb p1 p2' hm
            obtain ⟨p2, rfl⟩ := rt_nat hp
            have A4 := Lib.hid (fun w => add_any p1 0 p2 v hp hv w)
            rw [hfin] at A4
            simp only [Int.natCast_zero] at M3
            clear hmb hm hfin
            go_wp2_with (first
              | (go_at_call 23
                 with_reducible refine (S1.out _).mono ?_
                 rintro e w10 ⟨rfl, hb⟩
                 have hw10 : Below w.heap.size w w10 := hw'.trans (hb.mono hw'.size)
                 have Aw10 := Aw'.below hb Aw'.lt
                 have Bw10 := Bw'.below hb Bw'.lt
                 clear hb cB0 cB1 fB0 fB1 cA0 cA1 fA0 fA1 Aw' Bw'
                 obtain ⟨cA0, cA1, fA0, fA1⟩ := Aw10.two
                 have kAw10 : w.heap.size < w10.heap.size := Aw10.lt
                 obtain ⟨cB0, cB1, fB0, fB1⟩ := Bw10.two
                 have kBw10 : (w.heap.size + 1) < w10.heap.size := Bw10.lt)
              | (go_at_call 27
                 with_reducible refine (I1.out _).mono ?_
                 rintro e w12 ⟨rfl, hb⟩
                 have hw12 : Below w.heap.size w w12 := (hw10.alloc hw10.size _).trans (hb.mono (by have := hw10.size; simp; omega))
                 have Aw12 := (Aw10.alloc _).below hb (by have := Aw10.lt; simp; omega)
                 have Bw12 := (Bw10.alloc _).below hb (by have := Bw10.lt; simp; omega)
                 clear hb cB0 cB1 fB0 fB1 cA0 cA1 fA0 fA1 Aw10 Bw10
                 obtain ⟨cA0, cA1, fA0, fA1⟩ := Aw12.two
                 have kAw12 : w.heap.size < w12.heap.size := Aw12.lt
                 obtain ⟨cB0, cB1, fB0, fB1⟩ := Bw12.two
                 have kBw12 : (w.heap.size + 1) < w12.heap.size := Bw12.lt)
              | (go_at_call 28
                 with_reducible refine (O1.out _).mono ?_
                 rintro e w13 ⟨rfl, hb⟩
                 have hw13 : Below w.heap.size w w13 := (hw12.alloc hw12.size _).trans (hb.mono (by have := hw12.size; simp; omega))
                 have Aw13 := (Aw12.alloc _).below hb (by have := Aw12.lt; simp; omega)
                 have Bw13 := (Bw12.alloc _).below hb (by have := Bw12.lt; simp; omega)
                 have Qw13 : Blk w13 w12.heap.size #[.int .i64 q, .int .i64 0] 23 := (Blk.here rfl rfl).below hb (by simp)
                 clear hb cB0 cB1 fB0 fB1 cA0 cA1 fA0 fA1 Aw12 Bw12
                 obtain ⟨cA0, cA1, fA0, fA1⟩ := Aw13.two
                 have kAw13 : w.heap.size < w13.heap.size := Aw13.lt
                 obtain ⟨cB0, cB1, fB0, fB1⟩ := Bw13.two
                 have kBw13 : (w.heap.size + 1) < w13.heap.size := Bw13.lt
                 obtain ⟨cQ0, cQ1, fQ0, fQ1⟩ := Qw13.two
                 have kQw13 : w12.heap.size < w13.heap.size := Qw13.lt)
              | (go_at_call 25
                 with_reducible refine (M3.out _).mono ?_
                 rintro e w14 ⟨rfl, hb⟩
                 have hw14 : Below w.heap.size w w14 := (hw13.alloc hw13.size _).trans (hb.mono (by have := hw13.size; simp; omega))
                 have Aw14 := (Aw13.alloc _).below hb (by have := Aw13.lt; simp; omega)
                 have Bw14 := (Bw13.alloc _).below hb (by have := Bw13.lt; simp; omega)
                 have Qw14 := (Qw13.alloc _).below hb (by have := Qw13.lt; simp; omega)
                 have Rw14 : Blk w14 w13.heap.size #[.int .i64 0, .int .i64 (v : Int)] 23 := (Blk.here rfl rfl).below hb (by simp)
                 clear hb cQ0 cQ1 fQ0 fQ1 cB0 cB1 fB0 fB1 cA0 cA1 fA0 fA1 Aw13 Bw13 Qw13
                 obtain ⟨cA0, cA1, fA0, fA1⟩ := Aw14.two
                 have kAw14 : w.heap.size < w14.heap.size := Aw14.lt
                 obtain ⟨cB0, cB1, fB0, fB1⟩ := Bw14.two
                 have kBw14 : (w.heap.size + 1) < w14.heap.size := Bw14.lt
                 obtain ⟨cQ0, cQ1, fQ0, fQ1⟩ := Qw14.two
                 have kQw14 : w12.heap.size < w14.heap.size := Qw14.lt
                 obtain ⟨cR0, cR1, fR0, fR1⟩ := Rw14.two
                 have kRw14 : w13.heap.size < w14.heap.size := Rw14.lt)
              | (go_at_call 11
                 with_reducible refine (A4.out _).mono ?_
                 rintro e w15 ⟨rfl, hb⟩
                 have hw15 : Below w.heap.size w w15 := (hw14.alloc hw14.size _).trans (hb.mono (by have := hw14.size; simp; omega))
                 have Aw15 := (Aw14.alloc _).below hb (by have := Aw14.lt; simp; omega)
                 have Qw15 := (Qw14.alloc _).below hb (by have := Qw14.lt; simp; omega)
                 clear hb cQ0 cQ1 fQ0 fQ1 cB0 cB1 fB0 fB1 cR0 cR1 fR0 fR1 cA0 cA1 fA0 fA1 Aw14 Bw14 Qw14 Rw14
                 obtain ⟨cA0, cA1, fA0, fA1⟩ := Aw15.two
                 have kAw15 : w.heap.size < w15.heap.size := Aw15.lt
                 obtain ⟨cQ0, cQ1, fQ0, fQ1⟩ := Qw15.two
                 have kQw15 : w12.heap.size < w15.heap.size := Qw15.lt))
            refine bodyPost_ret (v := .bool true) (by simp [results, Tryz.results7, go_sem]) rfl ⟨rfl, ?_⟩
            exact hw15.alloc hw15.size _
    · have hi : idivF n s' k t' = (0, 0, 52) := by unfold idivF; rw [ek]; rfl
      have ho : modF n s' k t' = (0, 0, 52) := by unfold modF; rw [ek]; rfl
      rw [hi] at I1
      rw [ho] at O1
      clear hi ho QI QM QO QB QS
      go_wp2_with (first
        | (go_at_call 23
           with_reducible refine (S1.out _).mono ?_
           rintro e w10 ⟨rfl, hb⟩
           have hw10 : Below w.heap.size w w10 := hw'.trans (hb.mono hw'.size)
           have Aw10 := Aw'.below hb Aw'.lt
           have Bw10 := Bw'.below hb Bw'.lt
           clear hb cB0 cB1 fB0 fB1 cA0 cA1 fA0 fA1 Aw' Bw'
           obtain ⟨cA0, cA1, fA0, fA1⟩ := Aw10.two
           have kAw10 : w.heap.size < w10.heap.size := Aw10.lt
           obtain ⟨cB0, cB1, fB0, fB1⟩ := Bw10.two
           have kBw10 : (w.heap.size + 1) < w10.heap.size := Bw10.lt)
        | (go_at_call 27
           with_reducible refine (I1.out _).mono ?_
           rintro e w12 ⟨rfl, hb⟩
           have hw12 : Below w.heap.size w w12 := (hw10.alloc hw10.size _).trans (hb.mono (by have := hw10.size; simp; omega))
           have Aw12 := (Aw10.alloc _).below hb (by have := Aw10.lt; simp; omega)
           have Bw12 := (Bw10.alloc _).below hb (by have := Bw10.lt; simp; omega)
           clear hb cB0 cB1 fB0 fB1 cA0 cA1 fA0 fA1 Aw10 Bw10
           obtain ⟨cA0, cA1, fA0, fA1⟩ := Aw12.two
           have kAw12 : w.heap.size < w12.heap.size := Aw12.lt
           obtain ⟨cB0, cB1, fB0, fB1⟩ := Bw12.two
           have kBw12 : (w.heap.size + 1) < w12.heap.size := Bw12.lt)
        | (go_at_call 28
           with_reducible refine (O1.out _).mono ?_
           rintro e w13 ⟨rfl, hb⟩
           have hw13 : Below w.heap.size w w13 := (hw12.alloc hw12.size _).trans (hb.mono (by have := hw12.size; simp; omega))
           have Aw13 := (Aw12.alloc _).below hb (by have := Aw12.lt; simp; omega)
           have Bw13 := (Bw12.alloc _).below hb (by have := Bw12.lt; simp; omega)
           have Qw13 : Blk w13 w12.heap.size #[.int .i64 0, .int .i64 0] 23 := (Blk.here rfl rfl).below hb (by simp)
           clear hb cB0 cB1 fB0 fB1 cA0 cA1 fA0 fA1 Aw12 Bw12
           obtain ⟨cA0, cA1, fA0, fA1⟩ := Aw13.two
           have kAw13 : w.heap.size < w13.heap.size := Aw13.lt
           obtain ⟨cB0, cB1, fB0, fB1⟩ := Bw13.two
           have kBw13 : (w.heap.size + 1) < w13.heap.size := Bw13.lt
           obtain ⟨cQ0, cQ1, fQ0, fQ1⟩ := Qw13.two
           have kQw13 : w12.heap.size < w13.heap.size := Qw13.lt))
      refine bodyPost_ret (v := .bool true) (by simp [results, Tryz.results7, go_sem]) rfl ⟨rfl, ?_⟩
      exact hw13.alloc hw13.size _
  · have hback := QB.out _ _ hs
    rw [hs] at S1
    obtain ⟨d2, rfl⟩ := rt_nat hd
    have A3 := Lib.hid (fun w => add_any d1 k d2 t' hd HB.out w)
    rw [hback] at A3
    clear hs hback
    cases ek : (k == 0)
    · have hk : k ≠ 0 := by simpa using ek
      obtain ⟨u, v', ho, hv, -, hsg⟩ := QO.out hk
      rw [ho] at O1
      obtain ⟨v, rfl⟩ := rt_nat hv
      cases eu : (u == 0)
      · have hsg' := hsg (by simpa using eu)
        have eu2 : ¬ u = 0 := by simpa using eu
        have eu3 : (u != 0) = true := by simpa using eu
        clear hsg
        rcases QI.out hk with hi | ⟨q, hi, -, hq⟩
        · rw [hi] at I1
          clear QI QM QO QB QS hi
          go_wp2_with (first
            | (go_at_call 23
               with_reducible refine (S1.out _).mono ?_
               rintro e w10 ⟨rfl, hb⟩
               have hw10 : Below w.heap.size w w10 := hw'.trans (hb.mono hw'.size)
               have Aw10 := Aw'.below hb Aw'.lt
               have Bw10 := Bw'.below hb Bw'.lt
               clear hb cB0 cB1 fB0 fB1 cA0 cA1 fA0 fA1 Aw' Bw'
               obtain ⟨cA0, cA1, fA0, fA1⟩ := Aw10.two
               have kAw10 : w.heap.size < w10.heap.size := Aw10.lt
               obtain ⟨cB0, cB1, fB0, fB1⟩ := Bw10.two
               have kBw10 : (w.heap.size + 1) < w10.heap.size := Bw10.lt)
            | (go_at_call 11
               with_reducible refine (A3.out _).mono ?_
               rintro e w11 ⟨rfl, hb⟩
               have hw11 : Below w.heap.size w w11 := (hw10.alloc hw10.size _).trans (hb.mono (by have := hw10.size; simp; omega))
               have Aw11 := (Aw10.alloc _).below hb (by have := Aw10.lt; simp; omega)
               have Bw11 := (Bw10.alloc _).below hb (by have := Bw10.lt; simp; omega)
               clear hb cB0 cB1 fB0 fB1 cA0 cA1 fA0 fA1 Aw10 Bw10
               obtain ⟨cA0, cA1, fA0, fA1⟩ := Aw11.two
               have kAw11 : w.heap.size < w11.heap.size := Aw11.lt
               obtain ⟨cB0, cB1, fB0, fB1⟩ := Bw11.two
               have kBw11 : (w.heap.size + 1) < w11.heap.size := Bw11.lt)
            | (go_at_call 27
               with_reducible refine (I1.out _).mono ?_
               rintro e w12 ⟨rfl, hb⟩
               have hw12 : Below w.heap.size w w12 := (hw11.alloc hw11.size _).trans (hb.mono (by have := hw11.size; simp; omega))
               have Aw12 := (Aw11.alloc _).below hb (by have := Aw11.lt; simp; omega)
               have Bw12 := (Bw11.alloc _).below hb (by have := Bw11.lt; simp; omega)
               clear hb cB0 cB1 fB0 fB1 cA0 cA1 fA0 fA1 Aw11 Bw11
               obtain ⟨cA0, cA1, fA0, fA1⟩ := Aw12.two
               have kAw12 : w.heap.size < w12.heap.size := Aw12.lt
               obtain ⟨cB0, cB1, fB0, fB1⟩ := Bw12.two
               have kBw12 : (w.heap.size + 1) < w12.heap.size := Bw12.lt)
            | (go_at_call 28
               with_reducible refine (O1.out _).mono ?_
               rintro e w13 ⟨rfl, hb⟩
               have hw13 : Below w.heap.size w w13 := (hw12.alloc hw12.size _).trans (hb.mono (by have := hw12.size; simp; omega))
               have Aw13 := (Aw12.alloc _).below hb (by have := Aw12.lt; simp; omega)
               have Bw13 := (Bw12.alloc _).below hb (by have := Bw12.lt; simp; omega)
               have Qw13 : Blk w13 w12.heap.size #[.int .i64 0, .int .i64 0] 23 := (Blk.here rfl rfl).below hb (by simp)
               clear hb cB0 cB1 fB0 fB1 cA0 cA1 fA0 fA1 Aw12 Bw12
               obtain ⟨cA0, cA1, fA0, fA1⟩ := Aw13.two
               have kAw13 : w.heap.size < w13.heap.size := Aw13.lt
               obtain ⟨cB0, cB1, fB0, fB1⟩ := Bw13.two
               have kBw13 : (w.heap.size + 1) < w13.heap.size := Bw13.lt
               obtain ⟨cQ0, cQ1, fQ0, fQ1⟩ := Qw13.two
               have kQw13 : w12.heap.size < w13.heap.size := Qw13.lt))
          refine bodyPost_ret (v := .bool true) (by simp [results, Tryz.results7, go_sem]) rfl ⟨rfl, ?_⟩
          exact hw13.alloc hw13.size _
        · rw [hi] at I1
          have hmb := QM.out q u v hk hi ho
          have M3 := Lib.hid (fun w => mul_any q k 0 t' hq HB.out w)
          have hm2 : mulF q ((0 : Nat) : Int) k t' = (0, 0, 53) ∨ ∃ p1 p2, mulF q ((0 : Nat) : Int) k t' = (p1, p2, 0) ∧ Rt p1 p2 := by
            unfold mulF
            rcases fitZ_cases (q * k) ((((0 : Nat) : Int) + (t' : Int)).toNat) with h | ⟨p1, p2, h, h', -⟩
            · exact .inl h
            · exact .inr ⟨p1, p2, h, h'⟩
          clear QI QM QO QB QS hi
          rcases hm2 with hm | ⟨p1, p2', hm, hp⟩
          · rw [hm] at M3
            simp only [Int.natCast_zero] at M3
            clear hmb hm
            go_wp2_with (first
              | (go_at_call 23
                 with_reducible refine (S1.out _).mono ?_
                 rintro e w10 ⟨rfl, hb⟩
                 have hw10 : Below w.heap.size w w10 := hw'.trans (hb.mono hw'.size)
                 have Aw10 := Aw'.below hb Aw'.lt
                 have Bw10 := Bw'.below hb Bw'.lt
                 clear hb cB0 cB1 fB0 fB1 cA0 cA1 fA0 fA1 Aw' Bw'
                 obtain ⟨cA0, cA1, fA0, fA1⟩ := Aw10.two
                 have kAw10 : w.heap.size < w10.heap.size := Aw10.lt
                 obtain ⟨cB0, cB1, fB0, fB1⟩ := Bw10.two
                 have kBw10 : (w.heap.size + 1) < w10.heap.size := Bw10.lt)
              | (go_at_call 11
                 with_reducible refine (A3.out _).mono ?_
                 rintro e w11 ⟨rfl, hb⟩
                 have hw11 : Below w.heap.size w w11 := (hw10.alloc hw10.size _).trans (hb.mono (by have := hw10.size; simp; omega))
                 have Aw11 := (Aw10.alloc _).below hb (by have := Aw10.lt; simp; omega)
                 have Bw11 := (Bw10.alloc _).below hb (by have := Bw10.lt; simp; omega)
                 clear hb cB0 cB1 fB0 fB1 cA0 cA1 fA0 fA1 Aw10 Bw10
                 obtain ⟨cA0, cA1, fA0, fA1⟩ := Aw11.two
                 have kAw11 : w.heap.size < w11.heap.size := Aw11.lt
                 obtain ⟨cB0, cB1, fB0, fB1⟩ := Bw11.two
                 have kBw11 : (w.heap.size + 1) < w11.heap.size := Bw11.lt)
              | (go_at_call 27
                 with_reducible refine (I1.out _).mono ?_
                 rintro e w12 ⟨rfl, hb⟩
                 have hw12 : Below w.heap.size w w12 := (hw11.alloc hw11.size _).trans (hb.mono (by have := hw11.size; simp; omega))
                 have Aw12 := (Aw11.alloc _).below hb (by have := Aw11.lt; simp; omega)
                 have Bw12 := (Bw11.alloc _).below hb (by have := Bw11.lt; simp; omega)
                 clear hb cB0 cB1 fB0 fB1 cA0 cA1 fA0 fA1 Aw11 Bw11
                 obtain ⟨cA0, cA1, fA0, fA1⟩ := Aw12.two
                 have kAw12 : w.heap.size < w12.heap.size := Aw12.lt
                 obtain ⟨cB0, cB1, fB0, fB1⟩ := Bw12.two
                 have kBw12 : (w.heap.size + 1) < w12.heap.size := Bw12.lt)
              | (go_at_call 28
                 with_reducible refine (O1.out _).mono ?_
                 rintro e w13 ⟨rfl, hb⟩
                 have hw13 : Below w.heap.size w w13 := (hw12.alloc hw12.size _).trans (hb.mono (by have := hw12.size; simp; omega))
                 have Aw13 := (Aw12.alloc _).below hb (by have := Aw12.lt; simp; omega)
                 have Bw13 := (Bw12.alloc _).below hb (by have := Bw12.lt; simp; omega)
                 have Qw13 : Blk w13 w12.heap.size #[.int .i64 q, .int .i64 0] 23 := (Blk.here rfl rfl).below hb (by simp)
                 clear hb cB0 cB1 fB0 fB1 cA0 cA1 fA0 fA1 Aw12 Bw12
                 obtain ⟨cA0, cA1, fA0, fA1⟩ := Aw13.two
                 have kAw13 : w.heap.size < w13.heap.size := Aw13.lt
                 obtain ⟨cB0, cB1, fB0, fB1⟩ := Bw13.two
                 have kBw13 : (w.heap.size + 1) < w13.heap.size := Bw13.lt
                 obtain ⟨cQ0, cQ1, fQ0, fQ1⟩ := Qw13.two
                 have kQw13 : w12.heap.size < w13.heap.size := Qw13.lt)
              | (go_at_call 25
                 with_reducible refine (M3.out _).mono ?_
                 rintro e w14 ⟨rfl, hb⟩
                 have hw14 : Below w.heap.size w w14 := (hw13.alloc hw13.size _).trans (hb.mono (by have := hw13.size; simp; omega))
                 have Aw14 := (Aw13.alloc _).below hb (by have := Aw13.lt; simp; omega)
                 have Bw14 := (Bw13.alloc _).below hb (by have := Bw13.lt; simp; omega)
                 have Qw14 := (Qw13.alloc _).below hb (by have := Qw13.lt; simp; omega)
                 have Rw14 : Blk w14 w13.heap.size #[.int .i64 u, .int .i64 (v : Int)] 23 := (Blk.here rfl rfl).below hb (by simp)
                 clear hb cQ0 cQ1 fQ0 fQ1 cB0 cB1 fB0 fB1 cA0 cA1 fA0 fA1 Aw13 Bw13 Qw13
                 obtain ⟨cA0, cA1, fA0, fA1⟩ := Aw14.two
                 have kAw14 : w.heap.size < w14.heap.size := Aw14.lt
                 obtain ⟨cB0, cB1, fB0, fB1⟩ := Bw14.two
                 have kBw14 : (w.heap.size + 1) < w14.heap.size := Bw14.lt
                 obtain ⟨cQ0, cQ1, fQ0, fQ1⟩ := Qw14.two
                 have kQw14 : w12.heap.size < w14.heap.size := Qw14.lt
                 obtain ⟨cR0, cR1, fR0, fR1⟩ := Rw14.two
                 have kRw14 : w13.heap.size < w14.heap.size := Rw14.lt))
            refine bodyPost_ret (v := .bool true) (by simp [results, Tryz.results7, go_sem]) rfl ⟨rfl, ?_⟩
            exact hw14.alloc hw14.size _
          · rw [hm] at M3
            have hfin := hmb p1 p2' hm
            obtain ⟨p2, rfl⟩ := rt_nat hp
            have A4 := Lib.hid (fun w => add_any p1 u p2 v hp hv w)
            rw [hfin] at A4
            simp only [Int.natCast_zero] at M3
            clear hmb hm hfin
            go_wp2_with (first
              | (go_at_call 23
                 with_reducible refine (S1.out _).mono ?_
                 rintro e w10 ⟨rfl, hb⟩
                 have hw10 : Below w.heap.size w w10 := hw'.trans (hb.mono hw'.size)
                 have Aw10 := Aw'.below hb Aw'.lt
                 have Bw10 := Bw'.below hb Bw'.lt
                 clear hb cB0 cB1 fB0 fB1 cA0 cA1 fA0 fA1 Aw' Bw'
                 obtain ⟨cA0, cA1, fA0, fA1⟩ := Aw10.two
                 have kAw10 : w.heap.size < w10.heap.size := Aw10.lt
                 obtain ⟨cB0, cB1, fB0, fB1⟩ := Bw10.two
                 have kBw10 : (w.heap.size + 1) < w10.heap.size := Bw10.lt)
              | (go_at_call 11
                 with_reducible refine (A3.out _).mono ?_
                 rintro e w11 ⟨rfl, hb⟩
                 have hw11 : Below w.heap.size w w11 := (hw10.alloc hw10.size _).trans (hb.mono (by have := hw10.size; simp; omega))
                 have Aw11 := (Aw10.alloc _).below hb (by have := Aw10.lt; simp; omega)
                 have Bw11 := (Bw10.alloc _).below hb (by have := Bw10.lt; simp; omega)
                 clear hb cB0 cB1 fB0 fB1 cA0 cA1 fA0 fA1 Aw10 Bw10
                 obtain ⟨cA0, cA1, fA0, fA1⟩ := Aw11.two
                 have kAw11 : w.heap.size < w11.heap.size := Aw11.lt
                 obtain ⟨cB0, cB1, fB0, fB1⟩ := Bw11.two
                 have kBw11 : (w.heap.size + 1) < w11.heap.size := Bw11.lt)
              | (go_at_call 27
                 with_reducible refine (I1.out _).mono ?_
                 rintro e w12 ⟨rfl, hb⟩
                 have hw12 : Below w.heap.size w w12 := (hw11.alloc hw11.size _).trans (hb.mono (by have := hw11.size; simp; omega))
                 have Aw12 := (Aw11.alloc _).below hb (by have := Aw11.lt; simp; omega)
                 have Bw12 := (Bw11.alloc _).below hb (by have := Bw11.lt; simp; omega)
                 clear hb cB0 cB1 fB0 fB1 cA0 cA1 fA0 fA1 Aw11 Bw11
                 obtain ⟨cA0, cA1, fA0, fA1⟩ := Aw12.two
                 have kAw12 : w.heap.size < w12.heap.size := Aw12.lt
                 obtain ⟨cB0, cB1, fB0, fB1⟩ := Bw12.two
                 have kBw12 : (w.heap.size + 1) < w12.heap.size := Bw12.lt)
              | (go_at_call 28
                 with_reducible refine (O1.out _).mono ?_
                 rintro e w13 ⟨rfl, hb⟩
                 have hw13 : Below w.heap.size w w13 := (hw12.alloc hw12.size _).trans (hb.mono (by have := hw12.size; simp; omega))
                 have Aw13 := (Aw12.alloc _).below hb (by have := Aw12.lt; simp; omega)
                 have Bw13 := (Bw12.alloc _).below hb (by have := Bw12.lt; simp; omega)
                 have Qw13 : Blk w13 w12.heap.size #[.int .i64 q, .int .i64 0] 23 := (Blk.here rfl rfl).below hb (by simp)
                 clear hb cB0 cB1 fB0 fB1 cA0 cA1 fA0 fA1 Aw12 Bw12
                 obtain ⟨cA0, cA1, fA0, fA1⟩ := Aw13.two
                 have kAw13 : w.heap.size < w13.heap.size := Aw13.lt
                 obtain ⟨cB0, cB1, fB0, fB1⟩ := Bw13.two
                 have kBw13 : (w.heap.size + 1) < w13.heap.size := Bw13.lt
                 obtain ⟨cQ0, cQ1, fQ0, fQ1⟩ := Qw13.two
                 have kQw13 : w12.heap.size < w13.heap.size := Qw13.lt)
              | (go_at_call 25
                 with_reducible refine (M3.out _).mono ?_
                 rintro e w14 ⟨rfl, hb⟩
                 have hw14 : Below w.heap.size w w14 := (hw13.alloc hw13.size _).trans (hb.mono (by have := hw13.size; simp; omega))
                 have Aw14 := (Aw13.alloc _).below hb (by have := Aw13.lt; simp; omega)
                 have Bw14 := (Bw13.alloc _).below hb (by have := Bw13.lt; simp; omega)
                 have Qw14 := (Qw13.alloc _).below hb (by have := Qw13.lt; simp; omega)
                 have Rw14 : Blk w14 w13.heap.size #[.int .i64 u, .int .i64 (v : Int)] 23 := (Blk.here rfl rfl).below hb (by simp)
                 clear hb cQ0 cQ1 fQ0 fQ1 cB0 cB1 fB0 fB1 cA0 cA1 fA0 fA1 Aw13 Bw13 Qw13
                 obtain ⟨cA0, cA1, fA0, fA1⟩ := Aw14.two
                 have kAw14 : w.heap.size < w14.heap.size := Aw14.lt
                 obtain ⟨cB0, cB1, fB0, fB1⟩ := Bw14.two
                 have kBw14 : (w.heap.size + 1) < w14.heap.size := Bw14.lt
                 obtain ⟨cQ0, cQ1, fQ0, fQ1⟩ := Qw14.two
                 have kQw14 : w12.heap.size < w14.heap.size := Qw14.lt
                 obtain ⟨cR0, cR1, fR0, fR1⟩ := Rw14.two
                 have kRw14 : w13.heap.size < w14.heap.size := Rw14.lt)
              | (go_at_call 11
                 with_reducible refine (A4.out _).mono ?_
                 rintro e w15 ⟨rfl, hb⟩
                 have hw15 : Below w.heap.size w w15 := (hw14.alloc hw14.size _).trans (hb.mono (by have := hw14.size; simp; omega))
                 have Aw15 := (Aw14.alloc _).below hb (by have := Aw14.lt; simp; omega)
                 have Qw15 := (Qw14.alloc _).below hb (by have := Qw14.lt; simp; omega)
                 clear hb cQ0 cQ1 fQ0 fQ1 cB0 cB1 fB0 fB1 cR0 cR1 fR0 fR1 cA0 cA1 fA0 fA1 Aw14 Bw14 Qw14 Rw14
                 obtain ⟨cA0, cA1, fA0, fA1⟩ := Aw15.two
                 have kAw15 : w.heap.size < w15.heap.size := Aw15.lt
                 obtain ⟨cQ0, cQ1, fQ0, fQ1⟩ := Qw15.two
                 have kQw15 : w12.heap.size < w15.heap.size := Qw15.lt))
            refine bodyPost_ret (v := .bool true) (by simp [results, Tryz.results7, go_sem]) rfl ⟨rfl, ?_⟩
            exact hw15.alloc hw15.size _
      · clear hsg
        obtain rfl : u = 0 := by simpa using eu
        rcases QI.out hk with hi | ⟨q, hi, -, hq⟩
        · rw [hi] at I1
          clear QI QM QO QB QS hi
          go_wp2_with (first
            | (go_at_call 23
               with_reducible refine (S1.out _).mono ?_
               rintro e w10 ⟨rfl, hb⟩
               have hw10 : Below w.heap.size w w10 := hw'.trans (hb.mono hw'.size)
               have Aw10 := Aw'.below hb Aw'.lt
               have Bw10 := Bw'.below hb Bw'.lt
               clear hb cB0 cB1 fB0 fB1 cA0 cA1 fA0 fA1 Aw' Bw'
               obtain ⟨cA0, cA1, fA0, fA1⟩ := Aw10.two
               have kAw10 : w.heap.size < w10.heap.size := Aw10.lt
               obtain ⟨cB0, cB1, fB0, fB1⟩ := Bw10.two
               have kBw10 : (w.heap.size + 1) < w10.heap.size := Bw10.lt)
            | (go_at_call 11
               with_reducible refine (A3.out _).mono ?_
               rintro e w11 ⟨rfl, hb⟩
               have hw11 : Below w.heap.size w w11 := (hw10.alloc hw10.size _).trans (hb.mono (by have := hw10.size; simp; omega))
               have Aw11 := (Aw10.alloc _).below hb (by have := Aw10.lt; simp; omega)
               have Bw11 := (Bw10.alloc _).below hb (by have := Bw10.lt; simp; omega)
               clear hb cB0 cB1 fB0 fB1 cA0 cA1 fA0 fA1 Aw10 Bw10
               obtain ⟨cA0, cA1, fA0, fA1⟩ := Aw11.two
               have kAw11 : w.heap.size < w11.heap.size := Aw11.lt
               obtain ⟨cB0, cB1, fB0, fB1⟩ := Bw11.two
               have kBw11 : (w.heap.size + 1) < w11.heap.size := Bw11.lt)
            | (go_at_call 27
               with_reducible refine (I1.out _).mono ?_
               rintro e w12 ⟨rfl, hb⟩
               have hw12 : Below w.heap.size w w12 := (hw11.alloc hw11.size _).trans (hb.mono (by have := hw11.size; simp; omega))
               have Aw12 := (Aw11.alloc _).below hb (by have := Aw11.lt; simp; omega)
               have Bw12 := (Bw11.alloc _).below hb (by have := Bw11.lt; simp; omega)
               clear hb cB0 cB1 fB0 fB1 cA0 cA1 fA0 fA1 Aw11 Bw11
               obtain ⟨cA0, cA1, fA0, fA1⟩ := Aw12.two
               have kAw12 : w.heap.size < w12.heap.size := Aw12.lt
               obtain ⟨cB0, cB1, fB0, fB1⟩ := Bw12.two
               have kBw12 : (w.heap.size + 1) < w12.heap.size := Bw12.lt)
            | (go_at_call 28
               with_reducible refine (O1.out _).mono ?_
               rintro e w13 ⟨rfl, hb⟩
               have hw13 : Below w.heap.size w w13 := (hw12.alloc hw12.size _).trans (hb.mono (by have := hw12.size; simp; omega))
               have Aw13 := (Aw12.alloc _).below hb (by have := Aw12.lt; simp; omega)
               have Bw13 := (Bw12.alloc _).below hb (by have := Bw12.lt; simp; omega)
               have Qw13 : Blk w13 w12.heap.size #[.int .i64 0, .int .i64 0] 23 := (Blk.here rfl rfl).below hb (by simp)
               clear hb cB0 cB1 fB0 fB1 cA0 cA1 fA0 fA1 Aw12 Bw12
               obtain ⟨cA0, cA1, fA0, fA1⟩ := Aw13.two
               have kAw13 : w.heap.size < w13.heap.size := Aw13.lt
               obtain ⟨cB0, cB1, fB0, fB1⟩ := Bw13.two
               have kBw13 : (w.heap.size + 1) < w13.heap.size := Bw13.lt
               obtain ⟨cQ0, cQ1, fQ0, fQ1⟩ := Qw13.two
               have kQw13 : w12.heap.size < w13.heap.size := Qw13.lt))
          refine bodyPost_ret (v := .bool true) (by simp [results, Tryz.results7, go_sem]) rfl ⟨rfl, ?_⟩
          exact hw13.alloc hw13.size _
        · rw [hi] at I1
          have hmb := QM.out q 0 v hk hi ho
          have M3 := Lib.hid (fun w => mul_any q k 0 t' hq HB.out w)
          have hm2 : mulF q ((0 : Nat) : Int) k t' = (0, 0, 53) ∨ ∃ p1 p2, mulF q ((0 : Nat) : Int) k t' = (p1, p2, 0) ∧ Rt p1 p2 := by
            unfold mulF
            rcases fitZ_cases (q * k) ((((0 : Nat) : Int) + (t' : Int)).toNat) with h | ⟨p1, p2, h, h', -⟩
            · exact .inl h
            · exact .inr ⟨p1, p2, h, h'⟩
          clear QI QM QO QB QS hi
          rcases hm2 with hm | ⟨p1, p2', hm, hp⟩
          · rw [hm] at M3
            simp only [Int.natCast_zero] at M3
            clear hmb hm
            go_wp2_with (first
              | (go_at_call 23
                 with_reducible refine (S1.out _).mono ?_
                 rintro e w10 ⟨rfl, hb⟩
                 have hw10 : Below w.heap.size w w10 := hw'.trans (hb.mono hw'.size)
                 have Aw10 := Aw'.below hb Aw'.lt
                 have Bw10 := Bw'.below hb Bw'.lt
                 clear hb cB0 cB1 fB0 fB1 cA0 cA1 fA0 fA1 Aw' Bw'
                 obtain ⟨cA0, cA1, fA0, fA1⟩ := Aw10.two
                 have kAw10 : w.heap.size < w10.heap.size := Aw10.lt
                 obtain ⟨cB0, cB1, fB0, fB1⟩ := Bw10.two
                 have kBw10 : (w.heap.size + 1) < w10.heap.size := Bw10.lt)
              | (go_at_call 11
                 with_reducible refine (A3.out _).mono ?_
                 rintro e w11 ⟨rfl, hb⟩
                 have hw11 : Below w.heap.size w w11 := (hw10.alloc hw10.size _).trans (hb.mono (by have := hw10.size; simp; omega))
                 have Aw11 := (Aw10.alloc _).below hb (by have := Aw10.lt; simp; omega)
                 have Bw11 := (Bw10.alloc _).below hb (by have := Bw10.lt; simp; omega)
                 clear hb cB0 cB1 fB0 fB1 cA0 cA1 fA0 fA1 Aw10 Bw10
                 obtain ⟨cA0, cA1, fA0, fA1⟩ := Aw11.two
                 have kAw11 : w.heap.size < w11.heap.size := Aw11.lt
                 obtain ⟨cB0, cB1, fB0, fB1⟩ := Bw11.two
                 have kBw11 : (w.heap.size + 1) < w11.heap.size := Bw11.lt)
              | (go_at_call 27
                 with_reducible refine (I1.out _).mono ?_
                 rintro e w12 ⟨rfl, hb⟩
                 have hw12 : Below w.heap.size w w12 := (hw11.alloc hw11.size _).trans (hb.mono (by have := hw11.size; simp; omega))
                 have Aw12 := (Aw11.alloc _).below hb (by have := Aw11.lt; simp; omega)
                 have Bw12 := (Bw11.alloc _).below hb (by have := Bw11.lt; simp; omega)
                 clear hb cB0 cB1 fB0 fB1 cA0 cA1 fA0 fA1 Aw11 Bw11
                 obtain ⟨cA0, cA1, fA0, fA1⟩ := Aw12.two
                 have kAw12 : w.heap.size < w12.heap.size := Aw12.lt
                 obtain ⟨cB0, cB1, fB0, fB1⟩ := Bw12.two
                 have kBw12 : (w.heap.size + 1) < w12.heap.size := Bw12.lt)
              | (go_at_call 28
                 with_reducible refine (O1.out _).mono ?_
                 rintro e w13 ⟨rfl, hb⟩
                 have hw13 : Below w.heap.size w w13 := (hw12.alloc hw12.size _).trans (hb.mono (by have := hw12.size; simp; omega))
                 have Aw13 := (Aw12.alloc _).below hb (by have := Aw12.lt; simp; omega)
                 have Bw13 := (Bw12.alloc _).below hb (by have := Bw12.lt; simp; omega)
                 have Qw13 : Blk w13 w12.heap.size #[.int .i64 q, .int .i64 0] 23 := (Blk.here rfl rfl).below hb (by simp)
                 clear hb cB0 cB1 fB0 fB1 cA0 cA1 fA0 fA1 Aw12 Bw12
                 obtain ⟨cA0, cA1, fA0, fA1⟩ := Aw13.two
                 have kAw13 : w.heap.size < w13.heap.size := Aw13.lt
                 obtain ⟨cB0, cB1, fB0, fB1⟩ := Bw13.two
                 have kBw13 : (w.heap.size + 1) < w13.heap.size := Bw13.lt
                 obtain ⟨cQ0, cQ1, fQ0, fQ1⟩ := Qw13.two
                 have kQw13 : w12.heap.size < w13.heap.size := Qw13.lt)
              | (go_at_call 25
                 with_reducible refine (M3.out _).mono ?_
                 rintro e w14 ⟨rfl, hb⟩
                 have hw14 : Below w.heap.size w w14 := (hw13.alloc hw13.size _).trans (hb.mono (by have := hw13.size; simp; omega))
                 have Aw14 := (Aw13.alloc _).below hb (by have := Aw13.lt; simp; omega)
                 have Bw14 := (Bw13.alloc _).below hb (by have := Bw13.lt; simp; omega)
                 have Qw14 := (Qw13.alloc _).below hb (by have := Qw13.lt; simp; omega)
                 have Rw14 : Blk w14 w13.heap.size #[.int .i64 0, .int .i64 (v : Int)] 23 := (Blk.here rfl rfl).below hb (by simp)
                 clear hb cQ0 cQ1 fQ0 fQ1 cB0 cB1 fB0 fB1 cA0 cA1 fA0 fA1 Aw13 Bw13 Qw13
                 obtain ⟨cA0, cA1, fA0, fA1⟩ := Aw14.two
                 have kAw14 : w.heap.size < w14.heap.size := Aw14.lt
                 obtain ⟨cB0, cB1, fB0, fB1⟩ := Bw14.two
                 have kBw14 : (w.heap.size + 1) < w14.heap.size := Bw14.lt
                 obtain ⟨cQ0, cQ1, fQ0, fQ1⟩ := Qw14.two
                 have kQw14 : w12.heap.size < w14.heap.size := Qw14.lt
                 obtain ⟨cR0, cR1, fR0, fR1⟩ := Rw14.two
                 have kRw14 : w13.heap.size < w14.heap.size := Rw14.lt))
            refine bodyPost_ret (v := .bool true) (by simp [results, Tryz.results7, go_sem]) rfl ⟨rfl, ?_⟩
            exact hw14.alloc hw14.size _
          · rw [hm] at M3
            have hfin := hmb p1 p2' hm
            obtain ⟨p2, rfl⟩ := rt_nat hp
            have A4 := Lib.hid (fun w => add_any p1 0 p2 v hp hv w)
            rw [hfin] at A4
            simp only [Int.natCast_zero] at M3
            clear hmb hm hfin
            go_wp2_with (first
              | (go_at_call 23
                 with_reducible refine (S1.out _).mono ?_
                 rintro e w10 ⟨rfl, hb⟩
                 have hw10 : Below w.heap.size w w10 := hw'.trans (hb.mono hw'.size)
                 have Aw10 := Aw'.below hb Aw'.lt
                 have Bw10 := Bw'.below hb Bw'.lt
                 clear hb cB0 cB1 fB0 fB1 cA0 cA1 fA0 fA1 Aw' Bw'
                 obtain ⟨cA0, cA1, fA0, fA1⟩ := Aw10.two
                 have kAw10 : w.heap.size < w10.heap.size := Aw10.lt
                 obtain ⟨cB0, cB1, fB0, fB1⟩ := Bw10.two
                 have kBw10 : (w.heap.size + 1) < w10.heap.size := Bw10.lt)
              | (go_at_call 11
                 with_reducible refine (A3.out _).mono ?_
                 rintro e w11 ⟨rfl, hb⟩
                 have hw11 : Below w.heap.size w w11 := (hw10.alloc hw10.size _).trans (hb.mono (by have := hw10.size; simp; omega))
                 have Aw11 := (Aw10.alloc _).below hb (by have := Aw10.lt; simp; omega)
                 have Bw11 := (Bw10.alloc _).below hb (by have := Bw10.lt; simp; omega)
                 clear hb cB0 cB1 fB0 fB1 cA0 cA1 fA0 fA1 Aw10 Bw10
                 obtain ⟨cA0, cA1, fA0, fA1⟩ := Aw11.two
                 have kAw11 : w.heap.size < w11.heap.size := Aw11.lt
                 obtain ⟨cB0, cB1, fB0, fB1⟩ := Bw11.two
                 have kBw11 : (w.heap.size + 1) < w11.heap.size := Bw11.lt)
              | (go_at_call 27
                 with_reducible refine (I1.out _).mono ?_
                 rintro e w12 ⟨rfl, hb⟩
                 have hw12 : Below w.heap.size w w12 := (hw11.alloc hw11.size _).trans (hb.mono (by have := hw11.size; simp; omega))
                 have Aw12 := (Aw11.alloc _).below hb (by have := Aw11.lt; simp; omega)
                 have Bw12 := (Bw11.alloc _).below hb (by have := Bw11.lt; simp; omega)
                 clear hb cB0 cB1 fB0 fB1 cA0 cA1 fA0 fA1 Aw11 Bw11
                 obtain ⟨cA0, cA1, fA0, fA1⟩ := Aw12.two
                 have kAw12 : w.heap.size < w12.heap.size := Aw12.lt
                 obtain ⟨cB0, cB1, fB0, fB1⟩ := Bw12.two
                 have kBw12 : (w.heap.size + 1) < w12.heap.size := Bw12.lt)
              | (go_at_call 28
                 with_reducible refine (O1.out _).mono ?_
                 rintro e w13 ⟨rfl, hb⟩
                 have hw13 : Below w.heap.size w w13 := (hw12.alloc hw12.size _).trans (hb.mono (by have := hw12.size; simp; omega))
                 have Aw13 := (Aw12.alloc _).below hb (by have := Aw12.lt; simp; omega)
                 have Bw13 := (Bw12.alloc _).below hb (by have := Bw12.lt; simp; omega)
                 have Qw13 : Blk w13 w12.heap.size #[.int .i64 q, .int .i64 0] 23 := (Blk.here rfl rfl).below hb (by simp)
                 clear hb cB0 cB1 fB0 fB1 cA0 cA1 fA0 fA1 Aw12 Bw12
                 obtain ⟨cA0, cA1, fA0, fA1⟩ := Aw13.two
                 have kAw13 : w.heap.size < w13.heap.size := Aw13.lt
                 obtain ⟨cB0, cB1, fB0, fB1⟩ := Bw13.two
                 have kBw13 : (w.heap.size + 1) < w13.heap.size := Bw13.lt
                 obtain ⟨cQ0, cQ1, fQ0, fQ1⟩ := Qw13.two
                 have kQw13 : w12.heap.size < w13.heap.size := Qw13.lt)
              | (go_at_call 25
                 with_reducible refine (M3.out _).mono ?_
                 rintro e w14 ⟨rfl, hb⟩
                 have hw14 : Below w.heap.size w w14 := (hw13.alloc hw13.size _).trans (hb.mono (by have := hw13.size; simp; omega))
                 have Aw14 := (Aw13.alloc _).below hb (by have := Aw13.lt; simp; omega)
                 have Bw14 := (Bw13.alloc _).below hb (by have := Bw13.lt; simp; omega)
                 have Qw14 := (Qw13.alloc _).below hb (by have := Qw13.lt; simp; omega)
                 have Rw14 : Blk w14 w13.heap.size #[.int .i64 0, .int .i64 (v : Int)] 23 := (Blk.here rfl rfl).below hb (by simp)
                 clear hb cQ0 cQ1 fQ0 fQ1 cB0 cB1 fB0 fB1 cA0 cA1 fA0 fA1 Aw13 Bw13 Qw13
                 obtain ⟨cA0, cA1, fA0, fA1⟩ := Aw14.two
                 have kAw14 : w.heap.size < w14.heap.size := Aw14.lt
                 obtain ⟨cB0, cB1, fB0, fB1⟩ := Bw14.two
                 have kBw14 : (w.heap.size + 1) < w14.heap.size := Bw14.lt
                 obtain ⟨cQ0, cQ1, fQ0, fQ1⟩ := Qw14.two
                 have kQw14 : w12.heap.size < w14.heap.size := Qw14.lt
                 obtain ⟨cR0, cR1, fR0, fR1⟩ := Rw14.two
                 have kRw14 : w13.heap.size < w14.heap.size := Rw14.lt)
              | (go_at_call 11
                 with_reducible refine (A4.out _).mono ?_
                 rintro e w15 ⟨rfl, hb⟩
                 have hw15 : Below w.heap.size w w15 := (hw14.alloc hw14.size _).trans (hb.mono (by have := hw14.size; simp; omega))
                 have Aw15 := (Aw14.alloc _).below hb (by have := Aw14.lt; simp; omega)
                 have Qw15 := (Qw14.alloc _).below hb (by have := Qw14.lt; simp; omega)
                 clear hb cQ0 cQ1 fQ0 fQ1 cB0 cB1 fB0 fB1 cR0 cR1 fR0 fR1 cA0 cA1 fA0 fA1 Aw14 Bw14 Qw14 Rw14
                 obtain ⟨cA0, cA1, fA0, fA1⟩ := Aw15.two
                 have kAw15 : w.heap.size < w15.heap.size := Aw15.lt
                 obtain ⟨cQ0, cQ1, fQ0, fQ1⟩ := Qw15.two
                 have kQw15 : w12.heap.size < w15.heap.size := Qw15.lt))
            refine bodyPost_ret (v := .bool true) (by simp [results, Tryz.results7, go_sem]) rfl ⟨rfl, ?_⟩
            exact hw15.alloc hw15.size _
    · have hi : idivF n s' k t' = (0, 0, 52) := by unfold idivF; rw [ek]; rfl
      have ho : modF n s' k t' = (0, 0, 52) := by unfold modF; rw [ek]; rfl
      rw [hi] at I1
      rw [ho] at O1
      clear hi ho QI QM QO QB QS
      go_wp2_with (first
        | (go_at_call 23
           with_reducible refine (S1.out _).mono ?_
           rintro e w10 ⟨rfl, hb⟩
           have hw10 : Below w.heap.size w w10 := hw'.trans (hb.mono hw'.size)
           have Aw10 := Aw'.below hb Aw'.lt
           have Bw10 := Bw'.below hb Bw'.lt
           clear hb cB0 cB1 fB0 fB1 cA0 cA1 fA0 fA1 Aw' Bw'
           obtain ⟨cA0, cA1, fA0, fA1⟩ := Aw10.two
           have kAw10 : w.heap.size < w10.heap.size := Aw10.lt
           obtain ⟨cB0, cB1, fB0, fB1⟩ := Bw10.two
           have kBw10 : (w.heap.size + 1) < w10.heap.size := Bw10.lt)
        | (go_at_call 11
           with_reducible refine (A3.out _).mono ?_
           rintro e w11 ⟨rfl, hb⟩
           have hw11 : Below w.heap.size w w11 := (hw10.alloc hw10.size _).trans (hb.mono (by have := hw10.size; simp; omega))
           have Aw11 := (Aw10.alloc _).below hb (by have := Aw10.lt; simp; omega)
           have Bw11 := (Bw10.alloc _).below hb (by have := Bw10.lt; simp; omega)
           clear hb cB0 cB1 fB0 fB1 cA0 cA1 fA0 fA1 Aw10 Bw10
           obtain ⟨cA0, cA1, fA0, fA1⟩ := Aw11.two
           have kAw11 : w.heap.size < w11.heap.size := Aw11.lt
           obtain ⟨cB0, cB1, fB0, fB1⟩ := Bw11.two
           have kBw11 : (w.heap.size + 1) < w11.heap.size := Bw11.lt)
        | (go_at_call 27
           with_reducible refine (I1.out _).mono ?_
           rintro e w12 ⟨rfl, hb⟩
           have hw12 : Below w.heap.size w w12 := (hw11.alloc hw11.size _).trans (hb.mono (by have := hw11.size; simp; omega))
           have Aw12 := (Aw11.alloc _).below hb (by have := Aw11.lt; simp; omega)
           have Bw12 := (Bw11.alloc _).below hb (by have := Bw11.lt; simp; omega)
           clear hb cB0 cB1 fB0 fB1 cA0 cA1 fA0 fA1 Aw11 Bw11
           obtain ⟨cA0, cA1, fA0, fA1⟩ := Aw12.two
           have kAw12 : w.heap.size < w12.heap.size := Aw12.lt
           obtain ⟨cB0, cB1, fB0, fB1⟩ := Bw12.two
           have kBw12 : (w.heap.size + 1) < w12.heap.size := Bw12.lt)
        | (go_at_call 28
           with_reducible refine (O1.out _).mono ?_
           rintro e w13 ⟨rfl, hb⟩
           have hw13 : Below w.heap.size w w13 := (hw12.alloc hw12.size _).trans (hb.mono (by have := hw12.size; simp; omega))
           have Aw13 := (Aw12.alloc _).below hb (by have := Aw12.lt; simp; omega)
           have Bw13 := (Bw12.alloc _).below hb (by have := Bw12.lt; simp; omega)
           have Qw13 : Blk w13 w12.heap.size #[.int .i64 0, .int .i64 0] 23 := (Blk.here rfl rfl).below hb (by simp)
           clear hb cB0 cB1 fB0 fB1 cA0 cA1 fA0 fA1 Aw12 Bw12
           obtain ⟨cA0, cA1, fA0, fA1⟩ := Aw13.two
           have kAw13 : w.heap.size < w13.heap.size := Aw13.lt
           obtain ⟨cB0, cB1, fB0, fB1⟩ := Bw13.two
           have kBw13 : (w.heap.size + 1) < w13.heap.size := Bw13.lt
           obtain ⟨cQ0, cQ1, fQ0, fQ1⟩ := Qw13.two
           have kQw13 : w12.heap.size < w13.heap.size := Qw13.lt))
      refine bodyPost_ret (v := .bool true) (by simp [results, Tryz.results7, go_sem]) rfl ⟨rfl, ?_⟩
      exact hw13.alloc hw13.size _
end Go.Proofs.YtgbghbeolndfiaaGreatDoor

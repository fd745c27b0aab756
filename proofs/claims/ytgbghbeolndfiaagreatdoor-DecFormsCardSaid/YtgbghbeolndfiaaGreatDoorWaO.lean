/- The law DecOrders: its walk. -/
import Derived.Test.YtgbghbeolndfiaaGreatDoorWaN
import Derived.Test.YtgbghbeolndfiaaGreatDoorWaI
import Derived.Test.YtgbghbeolndfiaaGreatDoorDeQ
set_option linter.unusedSimpArgs false
set_option linter.unusedVariables false
namespace Go.Proofs.YtgbghbeolndfiaaGreatDoor
open Go.RowKit

theorem rt_nat {n s : Int} (h : Rt n s) : ∃ t : Nat, s = (t : Int) := ⟨s.toNat, by have := h.s0; omega⟩
/-- What three comparisons may be. -/
theorem orders_cases {x y z : Int} (h1 : x ≤ 0 → y ≤ 0 → z ≤ 0) (h2 : x < 0 → y ≤ 0 → z < 0) :
    (decide (x ≤ 0) = false ∧ decide (x < 0) = false) ∨ (decide (x ≤ 0) = true ∧ decide (y ≤ 0) = false ∧ decide (x < 0) = false) ∨ (decide (x ≤ 0) = true ∧ decide (y ≤ 0) = false ∧ decide (x < 0) = true) ∨
      (decide (x ≤ 0) = true ∧ decide (y ≤ 0) = true ∧ decide (0 < z) = false ∧ decide (x < 0) = false) ∨ (decide (x ≤ 0) = true ∧ decide (y ≤ 0) = true ∧ decide (0 < z) = false ∧ decide (x < 0) = true ∧ decide (0 ≤ z) = false) := by
  by_cases a : x ≤ 0 <;> by_cases b : y ≤ 0 <;> by_cases e : x < 0 <;> simp_all <;> omega
set_option maxHeartbeats 4000000 in
theorem orders_any (n s k t c d : Int) (m : Int) (w : World) (hL : Laid m w) : Calls Tryz.prog 3 #[.agg #[.int .i64 n, .int .i64 s], .agg #[.int .i64 k, .int .i64 t], .agg #[.int .i64 c, .int .i64 d]] w fun e w' => e = .returned (.bool true) ∧ Below w.heap.size w w' := by
  have CW := Lib.hid (fun w' (hb : Below w.heap.size w w') => awake_any m w' (hL.on hb))
  have RA := Lib.hid (fun w => law_right_any n s w)
  have RB := Lib.hid (fun w => law_right_any k t w)
  have RC := Lib.hid (fun w => law_right_any c d w)
  cases eA : rightF n s
  · rw [eA] at RA
    go_enter Tryz.func3, Tryz.ntmps3
    go_wp2_with (first
      | (go_at_call 9; with_reducible refine (RA.out _).mono ?_; rintro e w2 ⟨rfl, hb⟩
         have hw2 : Below w.heap.size w w2 := hw1.trans (hb.mono hw1.size)
         have F0 := E0.below hb E0.lt
         have F1 := E1.below hb E1.lt
         have F2 := E2.below hb E2.lt
         clear hb c00 c01 f00 f01 c10 c11 f10 f11 c20 c21 f20 f21 E0 E1 E2
         obtain ⟨c00, c01, f00, f01⟩ := F0.two
         obtain ⟨c10, c11, f10, f11⟩ := F1.two
         obtain ⟨c20, c21, f20, f21⟩ := F2.two)
      | (go_at_call 8; refine (CW.out _ hw2).mono ?_; rintro e w9 ⟨rfl, hb⟩
         have hw9 : Below w.heap.size w w9 := hw2.trans (hb.mono hw2.size)
         clear hb)
      | (go_at_call 8; refine (CW.out _ (by go_grown)).mono ?_; rintro e w1 ⟨rfl, hb⟩
         have E0 : Blk w1 w.heap.size #[.int .i64 n, .int .i64 s] 23 := (Blk.alloc (Blk.alloc (Blk.here rfl rfl) _) _).below hb (by simp; omega)
         have E1 : Blk w1 (w.heap.size + 1) #[.int .i64 k, .int .i64 t] 23 := (Blk.alloc (Blk.here rfl (by simp)) _).below hb (by simp)
         have E2 : Blk w1 (w.heap.size + 1 + 1) #[.int .i64 c, .int .i64 d] 23 := (Blk.here rfl (by simp)).below hb (by simp)
         have hw1 : Below w.heap.size w w1 := Below.trans (by go_grown) (hb.mono (by simp; omega))
         obtain ⟨c00, c01, f00, f01⟩ := E0.two
         obtain ⟨c10, c11, f10, f11⟩ := E1.two
         obtain ⟨c20, c21, f20, f21⟩ := E2.two
         clear hb))
    exact bodyPost_ret (v := .bool true) (by simp [results, Tryz.results3, go_sem]) rfl ⟨rfl, hw9⟩
  rw [eA] at RA
  cases eB : rightF k t
  · rw [eB] at RB
    go_enter Tryz.func3, Tryz.ntmps3
    go_wp2_with (first
      | (go_at_call 9; with_reducible refine (RA.out _).mono ?_; rintro e w2 ⟨rfl, hb⟩
         have hw2 : Below w.heap.size w w2 := hw1.trans (hb.mono hw1.size)
         have F0 := E0.below hb E0.lt
         have F1 := E1.below hb E1.lt
         have F2 := E2.below hb E2.lt
         clear hb c00 c01 f00 f01 c10 c11 f10 f11 c20 c21 f20 f21 E0 E1 E2
         obtain ⟨c00, c01, f00, f01⟩ := F0.two
         obtain ⟨c10, c11, f10, f11⟩ := F1.two
         obtain ⟨c20, c21, f20, f21⟩ := F2.two)
      | (go_at_call 9; with_reducible refine (RB.out _).mono ?_; rintro e w3 ⟨rfl, hb⟩
         have hw3 : Below w.heap.size w w3 := hw2.trans (hb.mono hw2.size)
         have G0 := F0.below hb F0.lt
         have G1 := F1.below hb F1.lt
         have G2 := F2.below hb F2.lt
         clear hb c00 c01 f00 f01 c10 c11 f10 f11 c20 c21 f20 f21 F0 F1 F2
         obtain ⟨c00, c01, f00, f01⟩ := G0.two
         obtain ⟨c10, c11, f10, f11⟩ := G1.two
         obtain ⟨c20, c21, f20, f21⟩ := G2.two)
      | (go_at_call 8; refine (CW.out _ hw3).mono ?_; rintro e w9 ⟨rfl, hb⟩
         have hw9 : Below w.heap.size w w9 := hw3.trans (hb.mono hw3.size)
         clear hb)
      | (go_at_call 8; refine (CW.out _ (by go_grown)).mono ?_; rintro e w1 ⟨rfl, hb⟩
         have E0 : Blk w1 w.heap.size #[.int .i64 n, .int .i64 s] 23 := (Blk.alloc (Blk.alloc (Blk.here rfl rfl) _) _).below hb (by simp; omega)
         have E1 : Blk w1 (w.heap.size + 1) #[.int .i64 k, .int .i64 t] 23 := (Blk.alloc (Blk.here rfl (by simp)) _).below hb (by simp)
         have E2 : Blk w1 (w.heap.size + 1 + 1) #[.int .i64 c, .int .i64 d] 23 := (Blk.here rfl (by simp)).below hb (by simp)
         have hw1 : Below w.heap.size w w1 := Below.trans (by go_grown) (hb.mono (by simp; omega))
         obtain ⟨c00, c01, f00, f01⟩ := E0.two
         obtain ⟨c10, c11, f10, f11⟩ := E1.two
         obtain ⟨c20, c21, f20, f21⟩ := E2.two
         clear hb))
    exact bodyPost_ret (v := .bool true) (by simp [results, Tryz.results3, go_sem]) rfl ⟨rfl, hw9⟩
  rw [eB] at RB
  cases eC : rightF c d
  · rw [eC] at RC
    go_enter Tryz.func3, Tryz.ntmps3
    go_wp2_with (first
      | (go_at_call 9; with_reducible refine (RA.out _).mono ?_; rintro e w2 ⟨rfl, hb⟩
         have hw2 : Below w.heap.size w w2 := hw1.trans (hb.mono hw1.size)
         have F0 := E0.below hb E0.lt
         have F1 := E1.below hb E1.lt
         have F2 := E2.below hb E2.lt
         clear hb c00 c01 f00 f01 c10 c11 f10 f11 c20 c21 f20 f21 E0 E1 E2
         obtain ⟨c00, c01, f00, f01⟩ := F0.two
         obtain ⟨c10, c11, f10, f11⟩ := F1.two
         obtain ⟨c20, c21, f20, f21⟩ := F2.two)
      | (go_at_call 9; with_reducible refine (RB.out _).mono ?_; rintro e w3 ⟨rfl, hb⟩
         have hw3 : Below w.heap.size w w3 := hw2.trans (hb.mono hw2.size)
         have G0 := F0.below hb F0.lt
         have G1 := F1.below hb F1.lt
         have G2 := F2.below hb F2.lt
         clear hb c00 c01 f00 f01 c10 c11 f10 f11 c20 c21 f20 f21 F0 F1 F2
         obtain ⟨c00, c01, f00, f01⟩ := G0.two
         obtain ⟨c10, c11, f10, f11⟩ := G1.two
         obtain ⟨c20, c21, f20, f21⟩ := G2.two)
      | (go_at_call 9; with_reducible refine (RC.out _).mono ?_; rintro e w4 ⟨rfl, hb⟩
         have hw4 : Below w.heap.size w w4 := hw3.trans (hb.mono hw3.size)
         have H0 := G0.below hb G0.lt
         have H1 := G1.below hb G1.lt
         have H2 := G2.below hb G2.lt
         clear hb c00 c01 f00 f01 c10 c11 f10 f11 c20 c21 f20 f21 G0 G1 G2
         obtain ⟨c00, c01, f00, f01⟩ := H0.two
         obtain ⟨c10, c11, f10, f11⟩ := H1.two
         obtain ⟨c20, c21, f20, f21⟩ := H2.two)
      | (go_at_call 8; refine (CW.out _ hw4).mono ?_; rintro e w9 ⟨rfl, hb⟩
         have hw9 : Below w.heap.size w w9 := hw4.trans (hb.mono hw4.size)
         clear hb)
      | (go_at_call 8; refine (CW.out _ (by go_grown)).mono ?_; rintro e w1 ⟨rfl, hb⟩
         have E0 : Blk w1 w.heap.size #[.int .i64 n, .int .i64 s] 23 := (Blk.alloc (Blk.alloc (Blk.here rfl rfl) _) _).below hb (by simp; omega)
         have E1 : Blk w1 (w.heap.size + 1) #[.int .i64 k, .int .i64 t] 23 := (Blk.alloc (Blk.here rfl (by simp)) _).below hb (by simp)
         have E2 : Blk w1 (w.heap.size + 1 + 1) #[.int .i64 c, .int .i64 d] 23 := (Blk.here rfl (by simp)).below hb (by simp)
         have hw1 : Below w.heap.size w w1 := Below.trans (by go_grown) (hb.mono (by simp; omega))
         obtain ⟨c00, c01, f00, f01⟩ := E0.two
         obtain ⟨c10, c11, f10, f11⟩ := E1.two
         obtain ⟨c20, c21, f20, f21⟩ := E2.two
         clear hb))
    exact bodyPost_ret (v := .bool true) (by simp [results, Tryz.results3, go_sem]) rfl ⟨rfl, hw9⟩
  rw [eC] at RC
  have hA := (rightF_iff n s).1 eA
  have hB := (rightF_iff k t).1 eB
  have hC := (rightF_iff c d).1 eC
  obtain ⟨s', rfl⟩ := rt_nat hA
  obtain ⟨t', rfl⟩ := rt_nat hB
  obtain ⟨d', rfl⟩ := rt_nat hC
  have o1 := orders1 hA hB hC
  have CA := Lib.hid (fun w => cmp_any n k s' t' hA hB w)
  have CB := Lib.hid (fun w => cmp_any k c t' d' hB hC w)
  have CC := Lib.hid (fun w => cmp_any n c s' d' hA hC w)
  have AA := Lib.hid (fun w => add_any n c s' d' hA hC w)
  have AB := Lib.hid (fun w => add_any k c t' d' hB hC w)
  have hc := orders_cases (fun h g => (o1 h g).1) (fun h g => (o1 (by omega) g).2 h)
  have o2 : ∀ u v x y, addF n s' c d' = (u, v, 0) → addF k t' c d' = (x, y, 0) → cmpF u v x y = cmpF n s' k t' := fun u v x y => orders2 hA hB hC
  have g1 := addF_cases hA hC
  have g2 := addF_cases hB hC
  generalize cmpF n s' k t' = X at *
  generalize cmpF k t' c d' = Y at *
  generalize cmpF n s' c d' = Z at *
  generalize addF n s' c d' = p at *
  generalize addF k t' c d' = q at *
  obtain ⟨p1, p2, p3⟩ := p
  obtain ⟨q1, q2, q3⟩ := q
  have HO := Lib.hid o2
  have HC := Lib.hid hc
  have HG1 := Lib.hid g1
  have HG2 := Lib.hid g2
  clear o1 o2 hc g1 g2 hA hB hC eA eB eC
  go_enter Tryz.func3, Tryz.ntmps3
  go_wp2_with (first
    | (go_at_call 9; with_reducible refine (RA.out _).mono ?_; rintro e w2 ⟨rfl, hb⟩
       have hw2 : Below w.heap.size w w2 := hw1.trans (hb.mono hw1.size)
       have F0 := E0.below hb E0.lt
       have F1 := E1.below hb E1.lt
       have F2 := E2.below hb E2.lt
       clear hb c00 c01 f00 f01 c10 c11 f10 f11 c20 c21 f20 f21 E0 E1 E2
       obtain ⟨c00, c01, f00, f01⟩ := F0.two
       obtain ⟨c10, c11, f10, f11⟩ := F1.two
       obtain ⟨c20, c21, f20, f21⟩ := F2.two)
    | (go_at_call 9; with_reducible refine (RB.out _).mono ?_; rintro e w3 ⟨rfl, hb⟩
       have hw3 : Below w.heap.size w w3 := hw2.trans (hb.mono hw2.size)
       have G0 := F0.below hb F0.lt
       have G1 := F1.below hb F1.lt
       have G2 := F2.below hb F2.lt
       clear hb c00 c01 f00 f01 c10 c11 f10 f11 c20 c21 f20 f21 F0 F1 F2
       obtain ⟨c00, c01, f00, f01⟩ := G0.two
       obtain ⟨c10, c11, f10, f11⟩ := G1.two
       obtain ⟨c20, c21, f20, f21⟩ := G2.two)
    | (go_at_call 9; with_reducible refine (RC.out _).mono ?_; rintro e w4 ⟨rfl, hb⟩
       have hw4 : Below w.heap.size w w4 := hw3.trans (hb.mono hw3.size)
       have H0 := G0.below hb G0.lt
       have H1 := G1.below hb G1.lt
       have H2 := G2.below hb G2.lt
       clear hb c00 c01 f00 f01 c10 c11 f10 f11 c20 c21 f20 f21 G0 G1 G2
       obtain ⟨c00, c01, f00, f01⟩ := H0.two
       obtain ⟨c10, c11, f10, f11⟩ := H1.two
       obtain ⟨c20, c21, f20, f21⟩ := H2.two)
    | (go_at_call 8; refine (CW.out _ (by go_grown)).mono ?_; rintro e w1 ⟨rfl, hb⟩
       have E0 : Blk w1 w.heap.size #[.int .i64 n, .int .i64 (s' : Int)] 23 := (Blk.alloc (Blk.alloc (Blk.here rfl rfl) _) _).below hb (by simp; omega)
       have E1 : Blk w1 (w.heap.size + 1) #[.int .i64 k, .int .i64 (t' : Int)] 23 := (Blk.alloc (Blk.here rfl (by simp)) _).below hb (by simp)
       have E2 : Blk w1 (w.heap.size + 1 + 1) #[.int .i64 c, .int .i64 (d' : Int)] 23 := (Blk.here rfl (by simp)).below hb (by simp)
       have hw1 : Below w.heap.size w w1 := Below.trans (by go_grown) (hb.mono (by simp; omega))
       obtain ⟨c00, c01, f00, f01⟩ := E0.two
       obtain ⟨c10, c11, f10, f11⟩ := E1.two
       obtain ⟨c20, c21, f20, f21⟩ := E2.two
       clear hb))
  have k0 : w.heap.size < w4.heap.size := H0.lt
  have k1 : w.heap.size + 1 < w4.heap.size := H1.lt
  have k2 : w.heap.size + 1 + 1 < w4.heap.size := H2.lt
  refine region_steps 9 [some 32, some 33, some 34, some 35, some 36, some 37, some 38, some 39, some 40] (by kernel_rfl) (by kernel_rfl) ?_
  -- 0: Op.load 23 (Operand.tmp 3)
  apply ls_val
  · intro x w' hb hpre K hK
    have hc := (bcell hb).1
    clear hpre
    simp only [frL, Act.put, List.setIfInBounds_toArray, List.set_cons_zero, List.set_cons_succ, Nat.zero_add, Nat.reduceAdd] at hK ⊢
    have HK := Lib.hid hK
    clear hK
    refine Held.mk ?_
    go_simp
    exact HK.out _ (Below.refl _ _)
  -- 1: Op.load 23 (Operand.tmp 4)
  apply ls_val
  · intro x w' hb hpre K hK
    have hc := (bcell hb).1
    clear hpre
    simp only [frL, Act.put, List.setIfInBounds_toArray, List.set_cons_zero, List.set_cons_succ, Nat.zero_add, Nat.reduceAdd] at hK ⊢
    have HK := Lib.hid hK
    clear hK
    refine Held.mk ?_
    go_simp
    exact HK.out _ (Below.refl _ _)
  -- 2: Op.call { callee := Callee.value (Operand.func 10), args := #[Operand.tmp 32, Operand.tmp 
  apply ls_val
  · intro x w' hb hpre K hK
    have hc := (bcell hb).1
    simp [preds, Region.binds, phi, MP.val, MP.box, MP.row] at hpre
    simp only [frL, Act.put, List.setIfInBounds_toArray, List.set_cons_zero, List.set_cons_succ, Nat.zero_add, Nat.reduceAdd, hpre] at hK ⊢
    have HK := Lib.hid hK
    clear hK
    refine Held.mk ?_
    go_simp
    (with_reducible refine (CA.out _).mono ?_)
    rintro e w1 ⟨rfl, hb1⟩
    dsimp only
    exact HK.out _ hb1
  -- 3: Op.load 23 (Operand.tmp 4)
  apply ls_val
  · intro x w' hb hpre K hK
    have hc := (bcell hb).1
    clear hpre
    simp only [frL, Act.put, List.setIfInBounds_toArray, List.set_cons_zero, List.set_cons_succ, Nat.zero_add, Nat.reduceAdd] at hK ⊢
    have HK := Lib.hid hK
    clear hK
    refine Held.mk ?_
    go_simp
    exact HK.out _ (Below.refl _ _)
  -- 4: Op.load 23 (Operand.tmp 5)
  apply ls_val
  · intro x w' hb hpre K hK
    have hc := (bcell hb).1
    clear hpre
    simp only [frL, Act.put, List.setIfInBounds_toArray, List.set_cons_zero, List.set_cons_succ, Nat.zero_add, Nat.reduceAdd] at hK ⊢
    have HK := Lib.hid hK
    clear hK
    refine Held.mk ?_
    go_simp
    exact HK.out _ (Below.refl _ _)
  -- 5: Op.call { callee := Callee.value (Operand.func 10), args := #[Operand.tmp 35, Operand.tmp 
  apply ls_val
  · intro x w' hb hpre K hK
    have hc := (bcell hb).1
    simp [preds, Region.binds, phi, MP.val, MP.box, MP.row] at hpre
    simp only [frL, Act.put, List.setIfInBounds_toArray, List.set_cons_zero, List.set_cons_succ, Nat.zero_add, Nat.reduceAdd, hpre] at hK ⊢
    have HK := Lib.hid hK
    clear hK
    refine Held.mk ?_
    go_simp
    (with_reducible refine (CB.out _).mono ?_)
    rintro e w1 ⟨rfl, hb1⟩
    dsimp only
    exact HK.out _ hb1
  -- 6: Op.load 23 (Operand.tmp 3)
  apply ls_val
  · intro x w' hb hpre K hK
    have hc := (bcell hb).1
    clear hpre
    simp only [frL, Act.put, List.setIfInBounds_toArray, List.set_cons_zero, List.set_cons_succ, Nat.zero_add, Nat.reduceAdd] at hK ⊢
    have HK := Lib.hid hK
    clear hK
    refine Held.mk ?_
    go_simp
    exact HK.out _ (Below.refl _ _)
  -- 7: Op.load 23 (Operand.tmp 5)
  apply ls_val
  · intro x w' hb hpre K hK
    have hc := (bcell hb).1
    clear hpre
    simp only [frL, Act.put, List.setIfInBounds_toArray, List.set_cons_zero, List.set_cons_succ, Nat.zero_add, Nat.reduceAdd] at hK ⊢
    have HK := Lib.hid hK
    clear hK
    refine Held.mk ?_
    go_simp
    exact HK.out _ (Below.refl _ _)
  -- 8: Op.call { callee := Callee.value (Operand.func 10), args := #[Operand.tmp 38, Operand.tmp 
  apply ls_val
  · intro x w' hb hpre K hK
    have hc := (bcell hb).1
    simp [preds, Region.binds, phi, MP.val, MP.box, MP.row] at hpre
    simp only [frL, Act.put, List.setIfInBounds_toArray, List.set_cons_zero, List.set_cons_succ, Nat.zero_add, Nat.reduceAdd, hpre] at hK ⊢
    have HK := Lib.hid hK
    clear hK
    refine Held.mk ?_
    go_simp
    (with_reducible refine (CC.out _).mono ?_)
    rintro e w1 ⟨rfl, hb1⟩
    dsimp only
    exact HK.out _ hb1
  intro x w' hb hp
  simp only [List.cons_append, List.nil_append, phis, MP.val, MP.box, MP.row, frL, Act.put, List.setIfInBounds_toArray, List.set_cons_zero, List.set_cons_succ, Nat.zero_add, Nat.reduceAdd] at hp ⊢
  obtain ⟨h0, h1, h2, h3, h4, h5, h6, h7, h8, -⟩ := hp
  simp only [h0, h1, h2, h3, h4, h5, h6, h7, h8]
  clear h0 h1 h2 h3 h4 h5 h6 h7 h8
  have I0 := H0.below hb H0.lt
  have I1 := H1.below hb H1.lt
  have I2 := H2.below hb H2.lt
  have hw5 : Below w.heap.size w w' := hw4.trans (hb.mono hw4.size)
  clear hb c00 c01 f00 f01 c10 c11 f10 f11 c20 c21 f20 f21 H0 H1 H2 CA CB CC RA RB RC
  obtain ⟨c00, c01, f00, f01⟩ := I0.two
  obtain ⟨c10, c11, f10, f11⟩ := I1.two
  obtain ⟨c20, c21, f20, f21⟩ := I2.two
  rcases HC.out with ⟨e1, e2⟩ | ⟨e1, e2, e3⟩ | ⟨e1, e2, e3⟩ | ⟨e1, e2, e3, e4⟩ | ⟨e1, e2, e3, e4, e5⟩
  all_goals
    have R1 := HG1.out
    have R2 := HG2.out
    clear HG1 HG2 HC
    rcases R1 with hp | ⟨u, v, hp, hu, -⟩
    · simp only [Prod.mk.injEq] at hp
      obtain ⟨rfl, rfl, rfl⟩ := hp
      clear R2
      go_wp2_with (first
        | (go_at_call 11; with_reducible refine (AA.out _).mono ?_; rintro e w6 ⟨rfl, hb⟩
           have hw6 : Below w.heap.size w w6 := hw5.trans (hb.mono hw5.size)
           have J1 := I1.below hb I1.lt
           have J2 := I2.below hb I2.lt
           have l1 : w.heap.size + 1 < w6.heap.size := J1.lt
           have l2 : w.heap.size + 1 + 1 < w6.heap.size := J2.lt
           clear hb c00 c01 f00 f01 c10 c11 f10 f11 c20 c21 f20 f21 I0 I1 I2
           obtain ⟨c10, c11, f10, f11⟩ := J1.two
           obtain ⟨c20, c21, f20, f21⟩ := J2.two)
        | (go_at_call 11; with_reducible refine (AB.out _).mono ?_; rintro e w7 ⟨rfl, hb⟩
           have hw7 : Below w.heap.size w w7 := (hw6.alloc hw6.size _).trans (hb.mono (by have := hw6.size; simp; omega))
           clear hb c10 c11 f10 f11 c20 c21 f20 f21))
      refine bodyPost_ret (v := .bool true) (by simp [results, Tryz.results3, go_sem]) rfl ⟨rfl, ?_⟩
      go_grown
      all_goals first | exact hw7 | exact hw7.size
    · simp only [Prod.mk.injEq] at hp
      obtain ⟨rfl, rfl, rfl⟩ := hp
      rcases R2 with hp | ⟨x', y', hp, hx, -⟩
      · simp only [Prod.mk.injEq] at hp
        obtain ⟨rfl, rfl, rfl⟩ := hp
        go_wp2_with (first
          | (go_at_call 11; with_reducible refine (AA.out _).mono ?_; rintro e w6 ⟨rfl, hb⟩
             have hw6 : Below w.heap.size w w6 := hw5.trans (hb.mono hw5.size)
             have J1 := I1.below hb I1.lt
             have J2 := I2.below hb I2.lt
             have l1 : w.heap.size + 1 < w6.heap.size := J1.lt
             have l2 : w.heap.size + 1 + 1 < w6.heap.size := J2.lt
             clear hb c00 c01 f00 f01 c10 c11 f10 f11 c20 c21 f20 f21 I0 I1 I2
             obtain ⟨c10, c11, f10, f11⟩ := J1.two
             obtain ⟨c20, c21, f20, f21⟩ := J2.two)
          | (go_at_call 11; with_reducible refine (AB.out _).mono ?_; rintro e w7 ⟨rfl, hb⟩
             have hw7 : Below w.heap.size w w7 := (hw6.alloc hw6.size _).trans (hb.mono (by have := hw6.size; simp; omega))
             clear hb c10 c11 f10 f11 c20 c21 f20 f21))
        refine bodyPost_ret (v := .bool true) (by simp [results, Tryz.results3, go_sem]) rfl ⟨rfl, ?_⟩
        go_grown
        all_goals first | exact hw7 | exact hw7.size
      · simp only [Prod.mk.injEq] at hp
        obtain ⟨rfl, rfl, rfl⟩ := hp
        have hX := HO.out _ _ _ _ rfl rfl
        obtain ⟨v', rfl⟩ := rt_nat hu
        obtain ⟨y', rfl⟩ := rt_nat hx
        have CD := Lib.hid (fun w => cmp_any p1 q1 v' y' hu hx w)
        rw [hX] at CD
        clear hX hu hx HO
        go_wp2_with (first
          | (go_at_call 11; with_reducible refine (AA.out _).mono ?_; rintro e w6 ⟨rfl, hb⟩
             have hw6 : Below w.heap.size w w6 := hw5.trans (hb.mono hw5.size)
             have J1 := I1.below hb I1.lt
             have J2 := I2.below hb I2.lt
             have l1 : w.heap.size + 1 < w6.heap.size := J1.lt
             have l2 : w.heap.size + 1 + 1 < w6.heap.size := J2.lt
             clear hb c00 c01 f00 f01 c10 c11 f10 f11 c20 c21 f20 f21 I0 I1 I2
             obtain ⟨c10, c11, f10, f11⟩ := J1.two
             obtain ⟨c20, c21, f20, f21⟩ := J2.two)
          | (go_at_call 11; with_reducible refine (AB.out _).mono ?_; rintro e w7 ⟨rfl, hb⟩
             have hw7 : Below w.heap.size w w7 := (hw6.alloc hw6.size _).trans (hb.mono (by have := hw6.size; simp; omega))
             have P0 : Blk w7 w6.heap.size #[.int .i64 p1, .int .i64 (v' : Int)] 23 := (Blk.here rfl rfl).below hb (by simp)
             have l3 : w6.heap.size < w7.heap.size := P0.lt
             clear hb c10 c11 f10 f11 c20 c21 f20 f21
             obtain ⟨c30, c31, f30, f31⟩ := P0.two)
          | (go_at_call 10; with_reducible refine (CD.out _).mono ?_; rintro e w8 ⟨rfl, hb⟩
             have hw8 : Below w.heap.size w w8 := (hw7.alloc hw7.size _).trans (hb.mono (by have := hw7.size; simp; omega))
             clear hb))
        exact bodyPost_ret (v := .bool true) (by simp [results, Tryz.results3, go_sem]) rfl ⟨rfl, hw8⟩
end Go.Proofs.YtgbghbeolndfiaaGreatDoor

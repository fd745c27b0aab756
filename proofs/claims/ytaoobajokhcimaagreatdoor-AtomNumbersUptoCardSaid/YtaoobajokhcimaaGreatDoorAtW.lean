/- AtomNumbers' walk: a number cast to a truth value, to a whole number, to a number. -/
import Derived.Test.YtaoobajokhcimaaGreatDoorAtS
import Derived.Test.YtaoobajokhcimaaGreatDoorAtR
import Derived.Test.YtaoobajokhcimaaGreatDoorWaI
import Derived.Test.YtaoobajokhcimaaGreatDoorLoS
import Derived.Deep.RegionHeld3
import Derived.Lib.QuietBelow
import Derived.BigQuiet
set_option linter.unusedSimpArgs false
set_option linter.unusedVariables false
set_option linter.constructorNameAsVariable false
namespace Go.Proofs.YtaoobajokhcimaaGreatDoor
open Go.RowKit Go.Sort

set_option maxRecDepth 100000 in
set_option maxHeartbeats 4000000 in
theorem numbers_main (k n s q u v : Int) (hk : k = 1 ∨ k = 2) (w : World)
    (CA0 : ∀ w', Below w.heap.size w w' → Calls Tryz.prog 12 #[] w' fun e w'' => e = .returned (.bool true) ∧ Below w'.heap.size w' w'')
    (CR0 : ∀ w', Calls Tryz.prog 13 #[.agg #[.int .i64 k, .int .i64 n, .int .i64 s, .string (bs []), .bool false]] w' fun e w'' => e = .returned (.bool true) ∧ Below w'.heap.size w' w'')
    (CB0 : ∀ w', Below w.heap.size w w' → Calls Tryz.prog 14 #[.agg #[.int .i64 k, .int .i64 n, .int .i64 s, .string (bs []), .bool false], .int .i64 4] w' fun e w'' => e = .returned (.tuple #[.agg #[.int .i64 4, .int .i64 0, .int .i64 0, .string (bs []), .bool (n != 0)], .int .i64 0]) ∧ Below w'.heap.size w' w'')
    (CI0 : ∀ w', Below w.heap.size w w' → Calls Tryz.prog 14 #[.agg #[.int .i64 k, .int .i64 n, .int .i64 s, .string (bs []), .bool false], .int .i64 1] w' fun e w'' => e = .returned (.tuple #[.agg #[.int .i64 1, .int .i64 q, .int .i64 0, .string (bs []), .bool false], .int .i64 0]) ∧ Below w'.heap.size w' w'')
    (CD0 : ∀ w', Below w.heap.size w w' → Calls Tryz.prog 14 #[.agg #[.int .i64 k, .int .i64 n, .int .i64 s, .string (bs []), .bool false], .int .i64 2] w' fun e w'' => e = .returned (.tuple #[.agg #[.int .i64 2, .int .i64 n, .int .i64 s, .string (bs []), .bool false], .int .i64 0]) ∧ Below w'.heap.size w' w'')
    (NA0 : ∀ w', Calls Tryz.prog 16 #[.agg #[.int .i64 k, .int .i64 n, .int .i64 s, .string (bs []), .bool false]] w' fun e w'' => e = .returned (.agg #[.int .i64 n, .int .i64 s]) ∧ Below w'.heap.size w' w'')
    (NI0 : ∀ w', Calls Tryz.prog 16 #[.agg #[.int .i64 1, .int .i64 q, .int .i64 0, .string (bs []), .bool false]] w' fun e w'' => e = .returned (.agg #[.int .i64 q, .int .i64 0]) ∧ Below w'.heap.size w' w'')
    (ND0 : ∀ w', Calls Tryz.prog 16 #[.agg #[.int .i64 2, .int .i64 n, .int .i64 s, .string (bs []), .bool false]] w' fun e w'' => e = .returned (.agg #[.int .i64 n, .int .i64 s]) ∧ Below w'.heap.size w' w'')
    (CS0 : ∀ w', Calls Tryz.prog 15 #[.agg #[.int .i64 n, .int .i64 s], .agg #[.int .i64 q, .int .i64 0]] w' fun e w'' => e = .returned (.tuple #[.agg #[.int .i64 u, .int .i64 v], .int .i64 0]) ∧ Below w'.heap.size w' w'')
    (CL0 : ∀ w', Calls Tryz.prog 17 #[.agg #[.int .i64 u, .int .i64 v], .agg #[.int .i64 1, .int .i64 0]] w' fun e w'' => e = .returned (.int .i64 (-1)) ∧ Below w'.heap.size w' w'')
    (CG0 : ∀ w', Calls Tryz.prog 17 #[.agg #[.int .i64 u, .int .i64 v], .agg #[.int .i64 (-1), .int .i64 0]] w' fun e w'' => e = .returned (.int .i64 (1)) ∧ Below w'.heap.size w' w'')
    (hE : (u == 0) = true ∨ (u == 0) = false ∧ decide (0 < u) = decide (0 < n)) :
    Calls Tryz.prog 4 #[.agg #[.int .i64 k, .int .i64 n, .int .i64 s, .string (bs []), .bool false]] w fun e w' => e = .returned (.bool true) ∧ Below w.heap.size w w' := by
  have CA := Lib.hid CA0
  have CR := Lib.hid CR0
  have CB := Lib.hid CB0
  have CI := Lib.hid CI0
  have CD := Lib.hid CD0
  have NA := Lib.hid NA0
  have NI := Lib.hid NI0
  have ND := Lib.hid ND0
  have CS := Lib.hid CS0
  have CL := Lib.hid CL0
  have CG := Lib.hid CG0
  have HE := Lib.hid hE
  clear CA0 CR0 CB0 CI0 CD0 NA0 NI0 ND0 CS0 CL0 CG0 hE
  rcases hk with rfl | rfl

  · go_enter Tryz.func4, Tryz.ntmps4
    go_wp2_with (first
      | (go_at_call 12; with_reducible refine (CA.out _ (by go_grown)).mono ?_; rintro e w1 ⟨rfl, hb⟩
         have B0' : Blk w1 w.heap.size #[.int .i64 1, .int .i64 n, .int .i64 s, .string (bs []), .bool false] 24 := (Blk.here rfl (by simp)).below hb (by simp <;> omega)
         have hw1 : Below w.heap.size w w1 := Below.trans (by go_grown) (hb.mono (by simp <;> omega))
         have B0 := B0'
         have kB0 : w.heap.size < w1.heap.size := B0.lt
         obtain ⟨B00, B01, B02, B03, B04⟩ := B0.five.1
         clear B0'
         clear hb)
      | (go_at_call 13; with_reducible refine (CR.out _).mono ?_; rintro e w2 ⟨rfl, hb⟩
         have B0' := B0.below hb B0.lt
         have hw2 : Below w.heap.size w w2 := hw1.trans (hb.mono hw1.size)
         clear B0 kB0 B00 B01 B02 B03 B04
         have B0 := B0'
         have kB0 : w.heap.size < w2.heap.size := B0.lt
         obtain ⟨B00, B01, B02, B03, B04⟩ := B0.five.1
         clear B0'
         clear hb)
      | (go_at_call 14; with_reducible refine (CB.out _ hw2).mono ?_; rintro e w3 ⟨rfl, hb⟩
         have B0' := B0.below hb B0.lt
         have hw3 : Below w.heap.size w w3 := hw2.trans (hb.mono hw2.size)
         clear B0 kB0 B00 B01 B02 B03 B04
         have B0 := B0'
         have kB0 : w.heap.size < w3.heap.size := B0.lt
         obtain ⟨B00, B01, B02, B03, B04⟩ := B0.five.1
         clear B0'
         clear hb)
      | (go_at_call 14; with_reducible refine (CI.out _ (Below.alloc hw3 hw3.size _)).mono ?_; rintro e w4 ⟨rfl, hb⟩
         have B0' := (B0.alloc _).below hb (B0.alloc _).lt
         have D3' : Blk w4 w3.heap.size #[.int .i64 4, .int .i64 0, .int .i64 0, .string (bs []), .bool (n != 0)] 24 := (Blk.here rfl (by simp)).below hb (by simp <;> omega)
         have hw4 : Below w.heap.size w w4 := Below.trans (Below.alloc hw3 hw3.size _) (hb.mono (by have := hw3.size; simp <;> omega))
         clear B0 kB0 B00 B01 B02 B03 B04
         have B0 := B0'
         have kB0 : w.heap.size < w4.heap.size := B0.lt
         obtain ⟨B00, B01, B02, B03, B04⟩ := B0.five.1
         have D3 := D3'
         have kD3 : w3.heap.size < w4.heap.size := D3.lt
         obtain ⟨D30, D31, D32, D33, D34⟩ := D3.five.1
         clear B0' D3'
         clear hb)
      | (go_at_call 14; with_reducible refine (CD.out _ (Below.alloc hw4 hw4.size _)).mono ?_; rintro e w5 ⟨rfl, hb⟩
         have B0' := (B0.alloc _).below hb (B0.alloc _).lt
         have D3' := (D3.alloc _).below hb (D3.alloc _).lt
         have D5' : Blk w5 w4.heap.size #[.int .i64 1, .int .i64 q, .int .i64 0, .string (bs []), .bool false] 24 := (Blk.here rfl (by simp)).below hb (by simp <;> omega)
         have hw5 : Below w.heap.size w w5 := Below.trans (Below.alloc hw4 hw4.size _) (hb.mono (by have := hw4.size; simp <;> omega))
         clear B0 D3 kB0 B00 B01 B02 B03 B04 kD3 D30 D31 D32 D33 D34
         have B0 := B0'
         have kB0 : w.heap.size < w5.heap.size := B0.lt
         obtain ⟨B00, B01, B02, B03, B04⟩ := B0.five.1
         have D3 := D3'
         have kD3 : w3.heap.size < w5.heap.size := D3.lt
         obtain ⟨D30, D31, D32, D33, D34⟩ := D3.five.1
         have D5 := D5'
         have kD5 : w4.heap.size < w5.heap.size := D5.lt
         obtain ⟨D50, D51, D52, D53, D54⟩ := D5.five.1
         clear B0' D3' D5'
         clear hb))
    have H5 := hw5.alloc hw5.size (.cells #[.int .i64 2, .int .i64 n, .int .i64 s, .string (bs []), .bool false] 24)
    have B0 := B0.alloc (.cells #[.int .i64 2, .int .i64 n, .int .i64 s, .string (bs []), .bool false] 24)
    have D3 := D3.alloc (.cells #[.int .i64 2, .int .i64 n, .int .i64 s, .string (bs []), .bool false] 24)
    have D5 := D5.alloc (.cells #[.int .i64 2, .int .i64 n, .int .i64 s, .string (bs []), .bool false] 24)
    have D7 : Blk (w5.alloc (.cells #[.int .i64 2, .int .i64 n, .int .i64 s, .string (bs []), .bool false] 24)) w5.heap.size #[.int .i64 2, .int .i64 n, .int .i64 s, .string (bs []), .bool false] 24 := Blk.here rfl rfl
    clear kB0 B00 B01 B02 B03 B04 kD3 D30 D31 D32 D33 D34 kD5 D50 D51 D52 D53 D54
    obtain ⟨B00, B01, B02, B03, B04⟩ := B0.five.1
    obtain ⟨D50, D51, D52, D53, D54⟩ := D5.five.1
    have kB0 := B0.lt
    have kD5 := D5.lt
    generalize w5.alloc (.cells #[.int .i64 2, .int .i64 n, .int .i64 s, .string (bs []), .bool false] 24) = W at *
    obtain ⟨A, hA⟩ : ∃ A : Array Value, A = #[.int .i64 u, .int .i64 v] := ⟨_, rfl⟩
    have HA := Lib.hid hA
    clear hA
    refine RC.region_steps (R := RE W.heap.size 31 A) 10 [some 45, some 46, some 47, some 48, some 49, some 44, some 50, some 51, some 9, none] (JE 8 9) RE.trans RE.drew (fun w9 => fun q hq => by simp [orig, undef] at hq) (by kernel_rfl) (by kernel_rfl) ?_
    -- 0: Op.load 24 (Operand.tmp 1)
    apply RC.ls_val (JE.step (by decide))
    · intro x w' hb hpre K hK
      have z00 := (hb.bl.cell (p := ⟨w.heap.size, 0, none⟩) kB0).trans B00
      have z10 := (hb.bl.cell (p := ⟨w4.heap.size, 0, none⟩) kD5).trans D50
      have z01 := (hb.bl.cell (p := ⟨w.heap.size, 1, none⟩) kB0).trans B01
      have z11 := (hb.bl.cell (p := ⟨w4.heap.size, 1, none⟩) kD5).trans D51
      have z02 := (hb.bl.cell (p := ⟨w.heap.size, 2, none⟩) kB0).trans B02
      have z12 := (hb.bl.cell (p := ⟨w4.heap.size, 2, none⟩) kD5).trans D52
      have z03 := (hb.bl.cell (p := ⟨w.heap.size, 3, none⟩) kB0).trans B03
      have z13 := (hb.bl.cell (p := ⟨w4.heap.size, 3, none⟩) kD5).trans D53
      have z04 := (hb.bl.cell (p := ⟨w.heap.size, 4, none⟩) kB0).trans B04
      have z14 := (hb.bl.cell (p := ⟨w4.heap.size, 4, none⟩) kD5).trans D54
      clear hpre
      simp only [frL, Act.put, List.setIfInBounds_toArray, List.set_cons_zero, List.set_cons_succ, Nat.zero_add, Nat.reduceAdd] at hK ⊢
      have HK := Lib.hid hK
      clear hK
      refine Held.mk ?_
      go_simp
      exact HK.out _ (RE.refl _)
    -- 1: Op.call { callee := Callee.value (Operand.func 16), args := #[Operand.tmp 45], a
    apply RC.ls_val (JE.step (by decide))
    · intro x w' hb hpre K hK
      have z00 := (hb.bl.cell (p := ⟨w.heap.size, 0, none⟩) kB0).trans B00
      have z10 := (hb.bl.cell (p := ⟨w4.heap.size, 0, none⟩) kD5).trans D50
      have z01 := (hb.bl.cell (p := ⟨w.heap.size, 1, none⟩) kB0).trans B01
      have z11 := (hb.bl.cell (p := ⟨w4.heap.size, 1, none⟩) kD5).trans D51
      have z02 := (hb.bl.cell (p := ⟨w.heap.size, 2, none⟩) kB0).trans B02
      have z12 := (hb.bl.cell (p := ⟨w4.heap.size, 2, none⟩) kD5).trans D52
      have z03 := (hb.bl.cell (p := ⟨w.heap.size, 3, none⟩) kB0).trans B03
      have z13 := (hb.bl.cell (p := ⟨w4.heap.size, 3, none⟩) kD5).trans D53
      have z04 := (hb.bl.cell (p := ⟨w.heap.size, 4, none⟩) kB0).trans B04
      have z14 := (hb.bl.cell (p := ⟨w4.heap.size, 4, none⟩) kD5).trans D54
      simp [preds, Region.binds, RC.phi, RC.MP.val] at hpre
      simp only [frL, Act.put, List.setIfInBounds_toArray, List.set_cons_zero, List.set_cons_succ, Nat.zero_add, Nat.reduceAdd, hpre] at hK ⊢
      have HK := Lib.hid hK
      clear hK
      refine Held.mk ?_
      go_simp
      (with_reducible refine (NA.out _).mono ?_)
      rintro e w1 ⟨rfl, hb1⟩
      dsimp only
      exact HK.out _ (RE.ofBelow hb1 hb.bl.size)
    -- 2: Op.load 24 (Operand.tmp 5)
    apply RC.ls_val (JE.step (by decide))
    · intro x w' hb hpre K hK
      have z00 := (hb.bl.cell (p := ⟨w.heap.size, 0, none⟩) kB0).trans B00
      have z10 := (hb.bl.cell (p := ⟨w4.heap.size, 0, none⟩) kD5).trans D50
      have z01 := (hb.bl.cell (p := ⟨w.heap.size, 1, none⟩) kB0).trans B01
      have z11 := (hb.bl.cell (p := ⟨w4.heap.size, 1, none⟩) kD5).trans D51
      have z02 := (hb.bl.cell (p := ⟨w.heap.size, 2, none⟩) kB0).trans B02
      have z12 := (hb.bl.cell (p := ⟨w4.heap.size, 2, none⟩) kD5).trans D52
      have z03 := (hb.bl.cell (p := ⟨w.heap.size, 3, none⟩) kB0).trans B03
      have z13 := (hb.bl.cell (p := ⟨w4.heap.size, 3, none⟩) kD5).trans D53
      have z04 := (hb.bl.cell (p := ⟨w.heap.size, 4, none⟩) kB0).trans B04
      have z14 := (hb.bl.cell (p := ⟨w4.heap.size, 4, none⟩) kD5).trans D54
      clear hpre
      simp only [frL, Act.put, List.setIfInBounds_toArray, List.set_cons_zero, List.set_cons_succ, Nat.zero_add, Nat.reduceAdd] at hK ⊢
      have HK := Lib.hid hK
      clear hK
      refine Held.mk ?_
      go_simp
      exact HK.out _ (RE.refl _)
    -- 3: Op.call { callee := Callee.value (Operand.func 16), args := #[Operand.tmp 47], a
    apply RC.ls_val (JE.step (by decide))
    · intro x w' hb hpre K hK
      have z00 := (hb.bl.cell (p := ⟨w.heap.size, 0, none⟩) kB0).trans B00
      have z10 := (hb.bl.cell (p := ⟨w4.heap.size, 0, none⟩) kD5).trans D50
      have z01 := (hb.bl.cell (p := ⟨w.heap.size, 1, none⟩) kB0).trans B01
      have z11 := (hb.bl.cell (p := ⟨w4.heap.size, 1, none⟩) kD5).trans D51
      have z02 := (hb.bl.cell (p := ⟨w.heap.size, 2, none⟩) kB0).trans B02
      have z12 := (hb.bl.cell (p := ⟨w4.heap.size, 2, none⟩) kD5).trans D52
      have z03 := (hb.bl.cell (p := ⟨w.heap.size, 3, none⟩) kB0).trans B03
      have z13 := (hb.bl.cell (p := ⟨w4.heap.size, 3, none⟩) kD5).trans D53
      have z04 := (hb.bl.cell (p := ⟨w.heap.size, 4, none⟩) kB0).trans B04
      have z14 := (hb.bl.cell (p := ⟨w4.heap.size, 4, none⟩) kD5).trans D54
      simp [preds, Region.binds, RC.phi, RC.MP.val] at hpre
      simp only [frL, Act.put, List.setIfInBounds_toArray, List.set_cons_zero, List.set_cons_succ, Nat.zero_add, Nat.reduceAdd, hpre] at hK ⊢
      have HK := Lib.hid hK
      clear hK
      refine Held.mk ?_
      go_simp
      (with_reducible refine (NI.out _).mono ?_)
      rintro e w1 ⟨rfl, hb1⟩
      dsimp only
      exact HK.out _ (RE.ofBelow hb1 hb.bl.size)
    -- 4: Op.call { callee := Callee.value (Operand.func 15), args := #[Operand.tmp 46, Op
    apply RC.ls_val (JE.step (by decide))
    · intro x w' hb hpre K hK
      have z00 := (hb.bl.cell (p := ⟨w.heap.size, 0, none⟩) kB0).trans B00
      have z10 := (hb.bl.cell (p := ⟨w4.heap.size, 0, none⟩) kD5).trans D50
      have z01 := (hb.bl.cell (p := ⟨w.heap.size, 1, none⟩) kB0).trans B01
      have z11 := (hb.bl.cell (p := ⟨w4.heap.size, 1, none⟩) kD5).trans D51
      have z02 := (hb.bl.cell (p := ⟨w.heap.size, 2, none⟩) kB0).trans B02
      have z12 := (hb.bl.cell (p := ⟨w4.heap.size, 2, none⟩) kD5).trans D52
      have z03 := (hb.bl.cell (p := ⟨w.heap.size, 3, none⟩) kB0).trans B03
      have z13 := (hb.bl.cell (p := ⟨w4.heap.size, 3, none⟩) kD5).trans D53
      have z04 := (hb.bl.cell (p := ⟨w.heap.size, 4, none⟩) kB0).trans B04
      have z14 := (hb.bl.cell (p := ⟨w4.heap.size, 4, none⟩) kD5).trans D54
      simp [preds, Region.binds, RC.phi, RC.MP.val] at hpre
      simp only [frL, Act.put, List.setIfInBounds_toArray, List.set_cons_zero, List.set_cons_succ, Nat.zero_add, Nat.reduceAdd, hpre] at hK ⊢
      have HK := Lib.hid hK
      clear hK
      refine Held.mk ?_
      go_simp
      (with_reducible refine (CS.out _).mono ?_)
      rintro e w1 ⟨rfl, hb1⟩
      dsimp only
      exact HK.out _ (RE.ofBelow hb1 hb.bl.size)
    -- 5: Op.move (Operand.tmp 49)
    apply RC.ls_val (JE.step (by decide))
    · intro x w' hb hpre K hK
      have z00 := (hb.bl.cell (p := ⟨w.heap.size, 0, none⟩) kB0).trans B00
      have z10 := (hb.bl.cell (p := ⟨w4.heap.size, 0, none⟩) kD5).trans D50
      have z01 := (hb.bl.cell (p := ⟨w.heap.size, 1, none⟩) kB0).trans B01
      have z11 := (hb.bl.cell (p := ⟨w4.heap.size, 1, none⟩) kD5).trans D51
      have z02 := (hb.bl.cell (p := ⟨w.heap.size, 2, none⟩) kB0).trans B02
      have z12 := (hb.bl.cell (p := ⟨w4.heap.size, 2, none⟩) kD5).trans D52
      have z03 := (hb.bl.cell (p := ⟨w.heap.size, 3, none⟩) kB0).trans B03
      have z13 := (hb.bl.cell (p := ⟨w4.heap.size, 3, none⟩) kD5).trans D53
      have z04 := (hb.bl.cell (p := ⟨w.heap.size, 4, none⟩) kB0).trans B04
      have z14 := (hb.bl.cell (p := ⟨w4.heap.size, 4, none⟩) kD5).trans D54
      simp [preds, Region.binds, RC.phi, RC.MP.val] at hpre
      simp only [frL, Act.put, List.setIfInBounds_toArray, List.set_cons_zero, List.set_cons_succ, Nat.zero_add, Nat.reduceAdd, hpre] at hK ⊢
      have HK := Lib.hid hK
      clear hK
      refine Held.mk ?_
      go_simp
      exact HK.out _ (RE.refl _)
    -- 6: Op.extract (Operand.tmp 44) 0
    apply RC.ls_val (JE.step (by decide))
    · intro x w' hb hpre K hK
      have z00 := (hb.bl.cell (p := ⟨w.heap.size, 0, none⟩) kB0).trans B00
      have z10 := (hb.bl.cell (p := ⟨w4.heap.size, 0, none⟩) kD5).trans D50
      have z01 := (hb.bl.cell (p := ⟨w.heap.size, 1, none⟩) kB0).trans B01
      have z11 := (hb.bl.cell (p := ⟨w4.heap.size, 1, none⟩) kD5).trans D51
      have z02 := (hb.bl.cell (p := ⟨w.heap.size, 2, none⟩) kB0).trans B02
      have z12 := (hb.bl.cell (p := ⟨w4.heap.size, 2, none⟩) kD5).trans D52
      have z03 := (hb.bl.cell (p := ⟨w.heap.size, 3, none⟩) kB0).trans B03
      have z13 := (hb.bl.cell (p := ⟨w4.heap.size, 3, none⟩) kD5).trans D53
      have z04 := (hb.bl.cell (p := ⟨w.heap.size, 4, none⟩) kB0).trans B04
      have z14 := (hb.bl.cell (p := ⟨w4.heap.size, 4, none⟩) kD5).trans D54
      simp [preds, Region.binds, RC.phi, RC.MP.val] at hpre
      simp only [frL, Act.put, List.setIfInBounds_toArray, List.set_cons_zero, List.set_cons_succ, Nat.zero_add, Nat.reduceAdd, hpre] at hK ⊢
      have HK := Lib.hid hK
      clear hK
      refine Held.mk ?_
      go_simp
      exact HK.out _ (RE.refl _)
    -- 7: Op.extract (Operand.tmp 44) 1
    apply RC.ls_val (JE.step (by decide))
    · intro x w' hb hpre K hK
      have z00 := (hb.bl.cell (p := ⟨w.heap.size, 0, none⟩) kB0).trans B00
      have z10 := (hb.bl.cell (p := ⟨w4.heap.size, 0, none⟩) kD5).trans D50
      have z01 := (hb.bl.cell (p := ⟨w.heap.size, 1, none⟩) kB0).trans B01
      have z11 := (hb.bl.cell (p := ⟨w4.heap.size, 1, none⟩) kD5).trans D51
      have z02 := (hb.bl.cell (p := ⟨w.heap.size, 2, none⟩) kB0).trans B02
      have z12 := (hb.bl.cell (p := ⟨w4.heap.size, 2, none⟩) kD5).trans D52
      have z03 := (hb.bl.cell (p := ⟨w.heap.size, 3, none⟩) kB0).trans B03
      have z13 := (hb.bl.cell (p := ⟨w4.heap.size, 3, none⟩) kD5).trans D53
      have z04 := (hb.bl.cell (p := ⟨w.heap.size, 4, none⟩) kB0).trans B04
      have z14 := (hb.bl.cell (p := ⟨w4.heap.size, 4, none⟩) kD5).trans D54
      simp [preds, Region.binds, RC.phi, RC.MP.val] at hpre
      simp only [frL, Act.put, List.setIfInBounds_toArray, List.set_cons_zero, List.set_cons_succ, Nat.zero_add, Nat.reduceAdd, hpre] at hK ⊢
      have HK := Lib.hid hK
      clear hK
      refine Held.mk ?_
      go_simp
      exact HK.out _ (RE.refl _)
    -- 8: Op.alloc 31
    refine RC.ls_genO (MPbo W.heap.size 31 A) ?_ ?_
    · intro x w' hb hj hpre ho K hK
      have ho9 : ∀ q, x 9 ≠ .pointer (some ⟨q, 0, none⟩) := fun q hq => by rw [ho 9 (by omega) (by kernel_rfl)] at hq; simp [orig, undef] at hq
      clear ho
      have z00 := (hb.bl.cell (p := ⟨w.heap.size, 0, none⟩) kB0).trans B00
      have z10 := (hb.bl.cell (p := ⟨w4.heap.size, 0, none⟩) kD5).trans D50
      have z01 := (hb.bl.cell (p := ⟨w.heap.size, 1, none⟩) kB0).trans B01
      have z11 := (hb.bl.cell (p := ⟨w4.heap.size, 1, none⟩) kD5).trans D51
      have z02 := (hb.bl.cell (p := ⟨w.heap.size, 2, none⟩) kB0).trans B02
      have z12 := (hb.bl.cell (p := ⟨w4.heap.size, 2, none⟩) kD5).trans D52
      have z03 := (hb.bl.cell (p := ⟨w.heap.size, 3, none⟩) kB0).trans B03
      have z13 := (hb.bl.cell (p := ⟨w4.heap.size, 3, none⟩) kD5).trans D53
      have z04 := (hb.bl.cell (p := ⟨w.heap.size, 4, none⟩) kB0).trans B04
      have z14 := (hb.bl.cell (p := ⟨w4.heap.size, 4, none⟩) kD5).trans D54
      clear hpre
      simp only [frL, Act.put, List.setIfInBounds_toArray, List.set_cons_zero, List.set_cons_succ, Nat.zero_add, Nat.reduceAdd] at hK ⊢
      have HK := Lib.hid hK
      clear hK
      refine Held.mk ?_
      go_simp
      exact HK.out _ _ ⟨_, _, rfl, hb.bl.size, by rw [HA.out]; rfl, Blk.new _ _ _⟩ (JE.make ho9 rfl _) (RE.ofBelow ((Below.refl _ _).alloc (Nat.le_refl _) _) hb.bl.size)
    -- 9: Op.store 31 (Operand.tmp 9) (Operand.tmp 50)
    refine RC.ls_gen (MPfi W.heap.size 31 A) ?_ ?_
    · intro x w' hb hj hpre K hK
      have p0 := hpre.1 rfl
      have p1 := hpre.2.1 rfl
      clear hpre
      simp [RC.phi, MPbo] at p0
      simp [RC.phi, RC.MP.val] at p1
      obtain ⟨q9, hq, hBq, cs, hsz, hy⟩ := p0
      rw [HA.out] at hsz
      obtain ⟨y1, y2, rfl⟩ := arr2 hsz
      obtain ⟨d0, d1', e0, e1⟩ := hy.two
      have hp := RE.put2 (B := W.heap.size) HA.out hy hBq
      simp only [frL, Act.put, List.setIfInBounds_toArray, List.set_cons_zero, List.set_cons_succ, Nat.zero_add, Nat.reduceAdd, hq, p1] at hK ⊢
      have HK := Lib.hid hK
      clear hK
      refine Held.mk ?_
      go_simp
      exact HK.out (.pointer (some ⟨q9, 0, none⟩)) _ ⟨q9, rfl, hBq, hp.2⟩ (JE.put hq rfl) hp.1
    intro x w' hb hp hJ
    simp only [List.cons_append, List.nil_append, RC.phis, RC.MP.val, frL, Act.put, List.setIfInBounds_toArray, List.set_cons_zero, List.set_cons_succ, Nat.zero_add, Nat.reduceAdd] at hp ⊢
    obtain ⟨h0, h1, h2, h3, h4, h5, h6, h7, h8, h9, -⟩ := hp
    simp only [h0, h1, h2, h3, h4, h5, h6, h7]
    clear h0 h1 h2 h3 h4 h5 h6 h7
    obtain ⟨q9, hq, hBq, hBl⟩ : ∃ q, x 9 = .pointer (some ⟨q, 0, none⟩) ∧ W.heap.size ≤ q ∧ Blk w' q A 31 := h9
    have hq8 := hJ q9 hq
    rw [HA.out] at hBl
    have B0 := B0.below hb.bl B0.lt
    have D3 := D3.below hb.bl D3.lt
    have D7 := D7.below hb.bl D7.lt
    have hw6 := H5.trans (hb.bl.mono H5.size)
    simp only [hq8]
    clear B00 B01 B02 B03 B04 D50 D51 D52 D53 D54 kB0 kD5 D5 hw1 hw2 hw3 hw4 hw5 CS CA CR CB CI CD NI h8 hJ hq hq8 HA hb H5
    obtain ⟨⟨x0, x1, x2, x3, x4⟩, -⟩ := B0.five
    obtain ⟨⟨b0, b1, b2, b3, b4⟩, -⟩ := D3.five
    obtain ⟨⟨d0, d1, d2, d3, d4⟩, -⟩ := D7.five
    obtain ⟨r0, r1, -⟩ := hBl.two
    have X0 := cell_regrown x0
    have X1 := cell_regrown x1
    have X2 := cell_regrown x2
    have X3 := cell_regrown x3
    have X4 := cell_regrown x4
    have Y4 := cell_regrown b4
    have D0 := cell_regrown d0
    have D1 := cell_regrown d1
    have D2 := cell_regrown d2
    have D3' := cell_regrown d3
    have D4 := cell_regrown d4
    have R0 := cell_regrown r0
    have R1 := cell_regrown r1
    clear B0 D3 D7 hBl
    go_wp2_with fail
    rcases HE.out with hu | ⟨hu, hs⟩
    all_goals
      clear HE
      refine wp_region_quiet_below (by kernel_rfl) (by kernel_rfl) ?_
      repeat (go_big_quiet_step (first
        | (go_at_call 16; first | (with_reducible exact Calls.regrown_of (ND.out _)) | (with_reducible exact Calls.regrown_of (NA.out _)))
        | (go_at_call 17; first | (with_reducible exact Calls.regrown_of (CL.out _)) | (with_reducible exact Calls.regrown_of (CG.out _)))))
      refine wpQuiet_nil ?_
      intro _ hw'
      obtain ⟨⟨dq, osq⟩, hw''⟩ := hw'
      subst hw''
      have hgq := below_regrown w' dq osq
      generalize grow (redrawn w' dq) osq = wq at *
      have hw7 := hw6.trans (hgq.mono hw6.size)
      clear X0 X1 X2 X3 X4 Y4 D0 D1 D2 D3' D4 R0 R1 x0 x1 x2 x3 x4 b0 b1 b2 b3 b4 d0 d1 d2 d3 d4 r0 r1
      go_wp2_with fail
      exact bodyPost_ret (v := .bool true) (by simp [results, Tryz.results4, go_sem]) rfl ⟨rfl, hw7⟩
  · go_enter Tryz.func4, Tryz.ntmps4
    go_wp2_with (first
      | (go_at_call 12; with_reducible refine (CA.out _ (by go_grown)).mono ?_; rintro e w1 ⟨rfl, hb⟩
         have B0' : Blk w1 w.heap.size #[.int .i64 2, .int .i64 n, .int .i64 s, .string (bs []), .bool false] 24 := (Blk.here rfl (by simp)).below hb (by simp <;> omega)
         have hw1 : Below w.heap.size w w1 := Below.trans (by go_grown) (hb.mono (by simp <;> omega))
         have B0 := B0'
         have kB0 : w.heap.size < w1.heap.size := B0.lt
         obtain ⟨B00, B01, B02, B03, B04⟩ := B0.five.1
         clear B0'
         clear hb)
      | (go_at_call 13; with_reducible refine (CR.out _).mono ?_; rintro e w2 ⟨rfl, hb⟩
         have B0' := B0.below hb B0.lt
         have hw2 : Below w.heap.size w w2 := hw1.trans (hb.mono hw1.size)
         clear B0 kB0 B00 B01 B02 B03 B04
         have B0 := B0'
         have kB0 : w.heap.size < w2.heap.size := B0.lt
         obtain ⟨B00, B01, B02, B03, B04⟩ := B0.five.1
         clear B0'
         clear hb)
      | (go_at_call 14; with_reducible refine (CB.out _ hw2).mono ?_; rintro e w3 ⟨rfl, hb⟩
         have B0' := B0.below hb B0.lt
         have hw3 : Below w.heap.size w w3 := hw2.trans (hb.mono hw2.size)
         clear B0 kB0 B00 B01 B02 B03 B04
         have B0 := B0'
         have kB0 : w.heap.size < w3.heap.size := B0.lt
         obtain ⟨B00, B01, B02, B03, B04⟩ := B0.five.1
         clear B0'
         clear hb)
      | (go_at_call 14; with_reducible refine (CI.out _ (Below.alloc hw3 hw3.size _)).mono ?_; rintro e w4 ⟨rfl, hb⟩
         have B0' := (B0.alloc _).below hb (B0.alloc _).lt
         have D3' : Blk w4 w3.heap.size #[.int .i64 4, .int .i64 0, .int .i64 0, .string (bs []), .bool (n != 0)] 24 := (Blk.here rfl (by simp)).below hb (by simp <;> omega)
         have hw4 : Below w.heap.size w w4 := Below.trans (Below.alloc hw3 hw3.size _) (hb.mono (by have := hw3.size; simp <;> omega))
         clear B0 kB0 B00 B01 B02 B03 B04
         have B0 := B0'
         have kB0 : w.heap.size < w4.heap.size := B0.lt
         obtain ⟨B00, B01, B02, B03, B04⟩ := B0.five.1
         have D3 := D3'
         have kD3 : w3.heap.size < w4.heap.size := D3.lt
         obtain ⟨D30, D31, D32, D33, D34⟩ := D3.five.1
         clear B0' D3'
         clear hb)
      | (go_at_call 14; with_reducible refine (CD.out _ (Below.alloc hw4 hw4.size _)).mono ?_; rintro e w5 ⟨rfl, hb⟩
         have B0' := (B0.alloc _).below hb (B0.alloc _).lt
         have D3' := (D3.alloc _).below hb (D3.alloc _).lt
         have D5' : Blk w5 w4.heap.size #[.int .i64 1, .int .i64 q, .int .i64 0, .string (bs []), .bool false] 24 := (Blk.here rfl (by simp)).below hb (by simp <;> omega)
         have hw5 : Below w.heap.size w w5 := Below.trans (Below.alloc hw4 hw4.size _) (hb.mono (by have := hw4.size; simp <;> omega))
         clear B0 D3 kB0 B00 B01 B02 B03 B04 kD3 D30 D31 D32 D33 D34
         have B0 := B0'
         have kB0 : w.heap.size < w5.heap.size := B0.lt
         obtain ⟨B00, B01, B02, B03, B04⟩ := B0.five.1
         have D3 := D3'
         have kD3 : w3.heap.size < w5.heap.size := D3.lt
         obtain ⟨D30, D31, D32, D33, D34⟩ := D3.five.1
         have D5 := D5'
         have kD5 : w4.heap.size < w5.heap.size := D5.lt
         obtain ⟨D50, D51, D52, D53, D54⟩ := D5.five.1
         clear B0' D3' D5'
         clear hb))
    have H5 := hw5.alloc hw5.size (.cells #[.int .i64 2, .int .i64 n, .int .i64 s, .string (bs []), .bool false] 24)
    have B0 := B0.alloc (.cells #[.int .i64 2, .int .i64 n, .int .i64 s, .string (bs []), .bool false] 24)
    have D3 := D3.alloc (.cells #[.int .i64 2, .int .i64 n, .int .i64 s, .string (bs []), .bool false] 24)
    have D5 := D5.alloc (.cells #[.int .i64 2, .int .i64 n, .int .i64 s, .string (bs []), .bool false] 24)
    have D7 : Blk (w5.alloc (.cells #[.int .i64 2, .int .i64 n, .int .i64 s, .string (bs []), .bool false] 24)) w5.heap.size #[.int .i64 2, .int .i64 n, .int .i64 s, .string (bs []), .bool false] 24 := Blk.here rfl rfl
    clear kB0 B00 B01 B02 B03 B04 kD3 D30 D31 D32 D33 D34 kD5 D50 D51 D52 D53 D54
    obtain ⟨B00, B01, B02, B03, B04⟩ := B0.five.1
    obtain ⟨D50, D51, D52, D53, D54⟩ := D5.five.1
    have kB0 := B0.lt
    have kD5 := D5.lt
    generalize w5.alloc (.cells #[.int .i64 2, .int .i64 n, .int .i64 s, .string (bs []), .bool false] 24) = W at *
    obtain ⟨A, hA⟩ : ∃ A : Array Value, A = #[.int .i64 u, .int .i64 v] := ⟨_, rfl⟩
    have HA := Lib.hid hA
    clear hA
    refine RC.region_steps (R := RE W.heap.size 31 A) 10 [some 45, some 46, some 47, some 48, some 49, some 44, some 50, some 51, some 9, none] (JE 8 9) RE.trans RE.drew (fun w9 => fun q hq => by simp [orig, undef] at hq) (by kernel_rfl) (by kernel_rfl) ?_
    -- 0: Op.load 24 (Operand.tmp 1)
    apply RC.ls_val (JE.step (by decide))
    · intro x w' hb hpre K hK
      have z00 := (hb.bl.cell (p := ⟨w.heap.size, 0, none⟩) kB0).trans B00
      have z10 := (hb.bl.cell (p := ⟨w4.heap.size, 0, none⟩) kD5).trans D50
      have z01 := (hb.bl.cell (p := ⟨w.heap.size, 1, none⟩) kB0).trans B01
      have z11 := (hb.bl.cell (p := ⟨w4.heap.size, 1, none⟩) kD5).trans D51
      have z02 := (hb.bl.cell (p := ⟨w.heap.size, 2, none⟩) kB0).trans B02
      have z12 := (hb.bl.cell (p := ⟨w4.heap.size, 2, none⟩) kD5).trans D52
      have z03 := (hb.bl.cell (p := ⟨w.heap.size, 3, none⟩) kB0).trans B03
      have z13 := (hb.bl.cell (p := ⟨w4.heap.size, 3, none⟩) kD5).trans D53
      have z04 := (hb.bl.cell (p := ⟨w.heap.size, 4, none⟩) kB0).trans B04
      have z14 := (hb.bl.cell (p := ⟨w4.heap.size, 4, none⟩) kD5).trans D54
      clear hpre
      simp only [frL, Act.put, List.setIfInBounds_toArray, List.set_cons_zero, List.set_cons_succ, Nat.zero_add, Nat.reduceAdd] at hK ⊢
      have HK := Lib.hid hK
      clear hK
      refine Held.mk ?_
      go_simp
      exact HK.out _ (RE.refl _)
    -- 1: Op.call { callee := Callee.value (Operand.func 16), args := #[Operand.tmp 45], a
    apply RC.ls_val (JE.step (by decide))
    · intro x w' hb hpre K hK
      have z00 := (hb.bl.cell (p := ⟨w.heap.size, 0, none⟩) kB0).trans B00
      have z10 := (hb.bl.cell (p := ⟨w4.heap.size, 0, none⟩) kD5).trans D50
      have z01 := (hb.bl.cell (p := ⟨w.heap.size, 1, none⟩) kB0).trans B01
      have z11 := (hb.bl.cell (p := ⟨w4.heap.size, 1, none⟩) kD5).trans D51
      have z02 := (hb.bl.cell (p := ⟨w.heap.size, 2, none⟩) kB0).trans B02
      have z12 := (hb.bl.cell (p := ⟨w4.heap.size, 2, none⟩) kD5).trans D52
      have z03 := (hb.bl.cell (p := ⟨w.heap.size, 3, none⟩) kB0).trans B03
      have z13 := (hb.bl.cell (p := ⟨w4.heap.size, 3, none⟩) kD5).trans D53
      have z04 := (hb.bl.cell (p := ⟨w.heap.size, 4, none⟩) kB0).trans B04
      have z14 := (hb.bl.cell (p := ⟨w4.heap.size, 4, none⟩) kD5).trans D54
      simp [preds, Region.binds, RC.phi, RC.MP.val] at hpre
      simp only [frL, Act.put, List.setIfInBounds_toArray, List.set_cons_zero, List.set_cons_succ, Nat.zero_add, Nat.reduceAdd, hpre] at hK ⊢
      have HK := Lib.hid hK
      clear hK
      refine Held.mk ?_
      go_simp
      (with_reducible refine (NA.out _).mono ?_)
      rintro e w1 ⟨rfl, hb1⟩
      dsimp only
      exact HK.out _ (RE.ofBelow hb1 hb.bl.size)
    -- 2: Op.load 24 (Operand.tmp 5)
    apply RC.ls_val (JE.step (by decide))
    · intro x w' hb hpre K hK
      have z00 := (hb.bl.cell (p := ⟨w.heap.size, 0, none⟩) kB0).trans B00
      have z10 := (hb.bl.cell (p := ⟨w4.heap.size, 0, none⟩) kD5).trans D50
      have z01 := (hb.bl.cell (p := ⟨w.heap.size, 1, none⟩) kB0).trans B01
      have z11 := (hb.bl.cell (p := ⟨w4.heap.size, 1, none⟩) kD5).trans D51
      have z02 := (hb.bl.cell (p := ⟨w.heap.size, 2, none⟩) kB0).trans B02
      have z12 := (hb.bl.cell (p := ⟨w4.heap.size, 2, none⟩) kD5).trans D52
      have z03 := (hb.bl.cell (p := ⟨w.heap.size, 3, none⟩) kB0).trans B03
      have z13 := (hb.bl.cell (p := ⟨w4.heap.size, 3, none⟩) kD5).trans D53
      have z04 := (hb.bl.cell (p := ⟨w.heap.size, 4, none⟩) kB0).trans B04
      have z14 := (hb.bl.cell (p := ⟨w4.heap.size, 4, none⟩) kD5).trans D54
      clear hpre
      simp only [frL, Act.put, List.setIfInBounds_toArray, List.set_cons_zero, List.set_cons_succ, Nat.zero_add, Nat.reduceAdd] at hK ⊢
      have HK := Lib.hid hK
      clear hK
      refine Held.mk ?_
      go_simp
      exact HK.out _ (RE.refl _)
    -- 3: Op.call { callee := Callee.value (Operand.func 16), args := #[Operand.tmp 47], a
    apply RC.ls_val (JE.step (by decide))
    · intro x w' hb hpre K hK
      have z00 := (hb.bl.cell (p := ⟨w.heap.size, 0, none⟩) kB0).trans B00
      have z10 := (hb.bl.cell (p := ⟨w4.heap.size, 0, none⟩) kD5).trans D50
      have z01 := (hb.bl.cell (p := ⟨w.heap.size, 1, none⟩) kB0).trans B01
      have z11 := (hb.bl.cell (p := ⟨w4.heap.size, 1, none⟩) kD5).trans D51
      have z02 := (hb.bl.cell (p := ⟨w.heap.size, 2, none⟩) kB0).trans B02
      have z12 := (hb.bl.cell (p := ⟨w4.heap.size, 2, none⟩) kD5).trans D52
      have z03 := (hb.bl.cell (p := ⟨w.heap.size, 3, none⟩) kB0).trans B03
      have z13 := (hb.bl.cell (p := ⟨w4.heap.size, 3, none⟩) kD5).trans D53
      have z04 := (hb.bl.cell (p := ⟨w.heap.size, 4, none⟩) kB0).trans B04
      have z14 := (hb.bl.cell (p := ⟨w4.heap.size, 4, none⟩) kD5).trans D54
      simp [preds, Region.binds, RC.phi, RC.MP.val] at hpre
      simp only [frL, Act.put, List.setIfInBounds_toArray, List.set_cons_zero, List.set_cons_succ, Nat.zero_add, Nat.reduceAdd, hpre] at hK ⊢
      have HK := Lib.hid hK
      clear hK
      refine Held.mk ?_
      go_simp
      (with_reducible refine (NI.out _).mono ?_)
      rintro e w1 ⟨rfl, hb1⟩
      dsimp only
      exact HK.out _ (RE.ofBelow hb1 hb.bl.size)
    -- 4: Op.call { callee := Callee.value (Operand.func 15), args := #[Operand.tmp 46, Op
    apply RC.ls_val (JE.step (by decide))
    · intro x w' hb hpre K hK
      have z00 := (hb.bl.cell (p := ⟨w.heap.size, 0, none⟩) kB0).trans B00
      have z10 := (hb.bl.cell (p := ⟨w4.heap.size, 0, none⟩) kD5).trans D50
      have z01 := (hb.bl.cell (p := ⟨w.heap.size, 1, none⟩) kB0).trans B01
      have z11 := (hb.bl.cell (p := ⟨w4.heap.size, 1, none⟩) kD5).trans D51
      have z02 := (hb.bl.cell (p := ⟨w.heap.size, 2, none⟩) kB0).trans B02
      have z12 := (hb.bl.cell (p := ⟨w4.heap.size, 2, none⟩) kD5).trans D52
      have z03 := (hb.bl.cell (p := ⟨w.heap.size, 3, none⟩) kB0).trans B03
      have z13 := (hb.bl.cell (p := ⟨w4.heap.size, 3, none⟩) kD5).trans D53
      have z04 := (hb.bl.cell (p := ⟨w.heap.size, 4, none⟩) kB0).trans B04
      have z14 := (hb.bl.cell (p := ⟨w4.heap.size, 4, none⟩) kD5).trans D54
      simp [preds, Region.binds, RC.phi, RC.MP.val] at hpre
      simp only [frL, Act.put, List.setIfInBounds_toArray, List.set_cons_zero, List.set_cons_succ, Nat.zero_add, Nat.reduceAdd, hpre] at hK ⊢
      have HK := Lib.hid hK
      clear hK
      refine Held.mk ?_
      go_simp
      (with_reducible refine (CS.out _).mono ?_)
      rintro e w1 ⟨rfl, hb1⟩
      dsimp only
      exact HK.out _ (RE.ofBelow hb1 hb.bl.size)
    -- 5: Op.move (Operand.tmp 49)
    apply RC.ls_val (JE.step (by decide))
    · intro x w' hb hpre K hK
      have z00 := (hb.bl.cell (p := ⟨w.heap.size, 0, none⟩) kB0).trans B00
      have z10 := (hb.bl.cell (p := ⟨w4.heap.size, 0, none⟩) kD5).trans D50
      have z01 := (hb.bl.cell (p := ⟨w.heap.size, 1, none⟩) kB0).trans B01
      have z11 := (hb.bl.cell (p := ⟨w4.heap.size, 1, none⟩) kD5).trans D51
      have z02 := (hb.bl.cell (p := ⟨w.heap.size, 2, none⟩) kB0).trans B02
      have z12 := (hb.bl.cell (p := ⟨w4.heap.size, 2, none⟩) kD5).trans D52
      have z03 := (hb.bl.cell (p := ⟨w.heap.size, 3, none⟩) kB0).trans B03
      have z13 := (hb.bl.cell (p := ⟨w4.heap.size, 3, none⟩) kD5).trans D53
      have z04 := (hb.bl.cell (p := ⟨w.heap.size, 4, none⟩) kB0).trans B04
      have z14 := (hb.bl.cell (p := ⟨w4.heap.size, 4, none⟩) kD5).trans D54
      simp [preds, Region.binds, RC.phi, RC.MP.val] at hpre
      simp only [frL, Act.put, List.setIfInBounds_toArray, List.set_cons_zero, List.set_cons_succ, Nat.zero_add, Nat.reduceAdd, hpre] at hK ⊢
      have HK := Lib.hid hK
      clear hK
      refine Held.mk ?_
      go_simp
      exact HK.out _ (RE.refl _)
    -- 6: Op.extract (Operand.tmp 44) 0
    apply RC.ls_val (JE.step (by decide))
    · intro x w' hb hpre K hK
      have z00 := (hb.bl.cell (p := ⟨w.heap.size, 0, none⟩) kB0).trans B00
      have z10 := (hb.bl.cell (p := ⟨w4.heap.size, 0, none⟩) kD5).trans D50
      have z01 := (hb.bl.cell (p := ⟨w.heap.size, 1, none⟩) kB0).trans B01
      have z11 := (hb.bl.cell (p := ⟨w4.heap.size, 1, none⟩) kD5).trans D51
      have z02 := (hb.bl.cell (p := ⟨w.heap.size, 2, none⟩) kB0).trans B02
      have z12 := (hb.bl.cell (p := ⟨w4.heap.size, 2, none⟩) kD5).trans D52
      have z03 := (hb.bl.cell (p := ⟨w.heap.size, 3, none⟩) kB0).trans B03
      have z13 := (hb.bl.cell (p := ⟨w4.heap.size, 3, none⟩) kD5).trans D53
      have z04 := (hb.bl.cell (p := ⟨w.heap.size, 4, none⟩) kB0).trans B04
      have z14 := (hb.bl.cell (p := ⟨w4.heap.size, 4, none⟩) kD5).trans D54
      simp [preds, Region.binds, RC.phi, RC.MP.val] at hpre
      simp only [frL, Act.put, List.setIfInBounds_toArray, List.set_cons_zero, List.set_cons_succ, Nat.zero_add, Nat.reduceAdd, hpre] at hK ⊢
      have HK := Lib.hid hK
      clear hK
      refine Held.mk ?_
      go_simp
      exact HK.out _ (RE.refl _)
    -- 7: Op.extract (Operand.tmp 44) 1
    apply RC.ls_val (JE.step (by decide))
    · intro x w' hb hpre K hK
      have z00 := (hb.bl.cell (p := ⟨w.heap.size, 0, none⟩) kB0).trans B00
      have z10 := (hb.bl.cell (p := ⟨w4.heap.size, 0, none⟩) kD5).trans D50
      have z01 := (hb.bl.cell (p := ⟨w.heap.size, 1, none⟩) kB0).trans B01
      have z11 := (hb.bl.cell (p := ⟨w4.heap.size, 1, none⟩) kD5).trans D51
      have z02 := (hb.bl.cell (p := ⟨w.heap.size, 2, none⟩) kB0).trans B02
      have z12 := (hb.bl.cell (p := ⟨w4.heap.size, 2, none⟩) kD5).trans D52
      have z03 := (hb.bl.cell (p := ⟨w.heap.size, 3, none⟩) kB0).trans B03
      have z13 := (hb.bl.cell (p := ⟨w4.heap.size, 3, none⟩) kD5).trans D53
      have z04 := (hb.bl.cell (p := ⟨w.heap.size, 4, none⟩) kB0).trans B04
      have z14 := (hb.bl.cell (p := ⟨w4.heap.size, 4, none⟩) kD5).trans D54
      simp [preds, Region.binds, RC.phi, RC.MP.val] at hpre
      simp only [frL, Act.put, List.setIfInBounds_toArray, List.set_cons_zero, List.set_cons_succ, Nat.zero_add, Nat.reduceAdd, hpre] at hK ⊢
      have HK := Lib.hid hK
      clear hK
      refine Held.mk ?_
      go_simp
      exact HK.out _ (RE.refl _)
    -- 8: Op.alloc 31
    refine RC.ls_genO (MPbo W.heap.size 31 A) ?_ ?_
    · intro x w' hb hj hpre ho K hK
      have ho9 : ∀ q, x 9 ≠ .pointer (some ⟨q, 0, none⟩) := fun q hq => by rw [ho 9 (by omega) (by kernel_rfl)] at hq; simp [orig, undef] at hq
      clear ho
      have z00 := (hb.bl.cell (p := ⟨w.heap.size, 0, none⟩) kB0).trans B00
      have z10 := (hb.bl.cell (p := ⟨w4.heap.size, 0, none⟩) kD5).trans D50
      have z01 := (hb.bl.cell (p := ⟨w.heap.size, 1, none⟩) kB0).trans B01
      have z11 := (hb.bl.cell (p := ⟨w4.heap.size, 1, none⟩) kD5).trans D51
      have z02 := (hb.bl.cell (p := ⟨w.heap.size, 2, none⟩) kB0).trans B02
      have z12 := (hb.bl.cell (p := ⟨w4.heap.size, 2, none⟩) kD5).trans D52
      have z03 := (hb.bl.cell (p := ⟨w.heap.size, 3, none⟩) kB0).trans B03
      have z13 := (hb.bl.cell (p := ⟨w4.heap.size, 3, none⟩) kD5).trans D53
      have z04 := (hb.bl.cell (p := ⟨w.heap.size, 4, none⟩) kB0).trans B04
      have z14 := (hb.bl.cell (p := ⟨w4.heap.size, 4, none⟩) kD5).trans D54
      clear hpre
      simp only [frL, Act.put, List.setIfInBounds_toArray, List.set_cons_zero, List.set_cons_succ, Nat.zero_add, Nat.reduceAdd] at hK ⊢
      have HK := Lib.hid hK
      clear hK
      refine Held.mk ?_
      go_simp
      exact HK.out _ _ ⟨_, _, rfl, hb.bl.size, by rw [HA.out]; rfl, Blk.new _ _ _⟩ (JE.make ho9 rfl _) (RE.ofBelow ((Below.refl _ _).alloc (Nat.le_refl _) _) hb.bl.size)
    -- 9: Op.store 31 (Operand.tmp 9) (Operand.tmp 50)
    refine RC.ls_gen (MPfi W.heap.size 31 A) ?_ ?_
    · intro x w' hb hj hpre K hK
      have p0 := hpre.1 rfl
      have p1 := hpre.2.1 rfl
      clear hpre
      simp [RC.phi, MPbo] at p0
      simp [RC.phi, RC.MP.val] at p1
      obtain ⟨q9, hq, hBq, cs, hsz, hy⟩ := p0
      rw [HA.out] at hsz
      obtain ⟨y1, y2, rfl⟩ := arr2 hsz
      obtain ⟨d0, d1', e0, e1⟩ := hy.two
      have hp := RE.put2 (B := W.heap.size) HA.out hy hBq
      simp only [frL, Act.put, List.setIfInBounds_toArray, List.set_cons_zero, List.set_cons_succ, Nat.zero_add, Nat.reduceAdd, hq, p1] at hK ⊢
      have HK := Lib.hid hK
      clear hK
      refine Held.mk ?_
      go_simp
      exact HK.out (.pointer (some ⟨q9, 0, none⟩)) _ ⟨q9, rfl, hBq, hp.2⟩ (JE.put hq rfl) hp.1
    intro x w' hb hp hJ
    simp only [List.cons_append, List.nil_append, RC.phis, RC.MP.val, frL, Act.put, List.setIfInBounds_toArray, List.set_cons_zero, List.set_cons_succ, Nat.zero_add, Nat.reduceAdd] at hp ⊢
    obtain ⟨h0, h1, h2, h3, h4, h5, h6, h7, h8, h9, -⟩ := hp
    simp only [h0, h1, h2, h3, h4, h5, h6, h7]
    clear h0 h1 h2 h3 h4 h5 h6 h7
    obtain ⟨q9, hq, hBq, hBl⟩ : ∃ q, x 9 = .pointer (some ⟨q, 0, none⟩) ∧ W.heap.size ≤ q ∧ Blk w' q A 31 := h9
    have hq8 := hJ q9 hq
    rw [HA.out] at hBl
    have B0 := B0.below hb.bl B0.lt
    have D3 := D3.below hb.bl D3.lt
    have D7 := D7.below hb.bl D7.lt
    have hw6 := H5.trans (hb.bl.mono H5.size)
    simp only [hq8]
    clear B00 B01 B02 B03 B04 D50 D51 D52 D53 D54 kB0 kD5 D5 hw1 hw2 hw3 hw4 hw5 CS CA CR CB CI CD NI h8 hJ hq hq8 HA hb H5
    obtain ⟨⟨x0, x1, x2, x3, x4⟩, -⟩ := B0.five
    obtain ⟨⟨b0, b1, b2, b3, b4⟩, -⟩ := D3.five
    obtain ⟨⟨d0, d1, d2, d3, d4⟩, -⟩ := D7.five
    obtain ⟨r0, r1, -⟩ := hBl.two
    have X0 := cell_regrown x0
    have X1 := cell_regrown x1
    have X2 := cell_regrown x2
    have X3 := cell_regrown x3
    have X4 := cell_regrown x4
    have Y4 := cell_regrown b4
    have D0 := cell_regrown d0
    have D1 := cell_regrown d1
    have D2 := cell_regrown d2
    have D3' := cell_regrown d3
    have D4 := cell_regrown d4
    have R0 := cell_regrown r0
    have R1 := cell_regrown r1
    clear B0 D3 D7 hBl
    go_wp2_with fail
    rcases HE.out with hu | ⟨hu, hs⟩
    all_goals
      clear HE
      refine wp_region_quiet_below (by kernel_rfl) (by kernel_rfl) ?_
      repeat (go_big_quiet_step (first
        | (go_at_call 16; first | (with_reducible exact Calls.regrown_of (ND.out _)) | (with_reducible exact Calls.regrown_of (NA.out _)))
        | (go_at_call 17; first | (with_reducible exact Calls.regrown_of (CL.out _)) | (with_reducible exact Calls.regrown_of (CG.out _)))))
      refine wpQuiet_nil ?_
      intro _ hw'
      obtain ⟨⟨dq, osq⟩, hw''⟩ := hw'
      subst hw''
      have hgq := below_regrown w' dq osq
      generalize grow (redrawn w' dq) osq = wq at *
      have hw7 := hw6.trans (hgq.mono hw6.size)
      clear X0 X1 X2 X3 X4 Y4 D0 D1 D2 D3' D4 R0 R1 x0 x1 x2 x3 x4 b0 b1 b2 b3 b4 d0 d1 d2 d3 d4 r0 r1
      go_wp2_with fail
      exact bodyPost_ret (v := .bool true) (by simp [results, Tryz.results4, go_sem]) rfl ⟨rfl, hw7⟩
set_option maxRecDepth 100000 in
set_option maxHeartbeats 4000000 in
theorem numbers_walk (k n s : Int) (t : ByteArray) (b : Bool) (ht : t.size ≤ 1100000) (m : Int) (w : World) (hL : Laid m w) : Calls Tryz.prog 4 #[.agg #[.int .i64 k, .int .i64 n, .int .i64 s, .string t, .bool b]] w fun e w' => e = .returned (.bool true) ∧ Below w.heap.size w w' := by
  have CA0 := fun w' (hb : Below w.heap.size w w') => awake_any m w' (hL.on hb)
  have CR0 := fun w => rright_any k n s t b (by omega) w
  cases hr : rightA ⟨k, n, s, t, b⟩
  · have CA := Lib.hid CA0
    have CR := Lib.hid CR0
    rw [hr] at CR
    clear hr ht hL CA0 CR0
    go_enter Tryz.func4, Tryz.ntmps4
    go_wp2_with (first
      | (go_at_call 12; with_reducible refine (CA.out _ hw2).mono ?_; rintro e w3 ⟨rfl, hb⟩
         have hw3 := hw2.trans (hb.mono hw2.size)
         clear hb)
      | (go_at_call 12; with_reducible refine (CA.out _ (by go_grown)).mono ?_; rintro e w1 ⟨rfl, hb⟩
         have B0' : Blk w1 w.heap.size #[.int .i64 k, .int .i64 n, .int .i64 s, .string t, .bool b] 24 := (Blk.here rfl (by simp)).below hb (by simp <;> omega)
         have hw1 : Below w.heap.size w w1 := Below.trans (by go_grown) (hb.mono (by simp <;> omega))
         have B0 := B0'
         have kB0 : w.heap.size < w1.heap.size := B0.lt
         obtain ⟨B00, B01, B02, B03, B04⟩ := B0.five.1
         clear B0'
         clear hb)
      | (go_at_call 13; with_reducible refine (CR.out _).mono ?_; rintro e w2 ⟨rfl, hb⟩
         have B0' := B0.below hb B0.lt
         have hw2 : Below w.heap.size w w2 := hw1.trans (hb.mono hw1.size)
         clear B0 kB0 B00 B01 B02 B03 B04
         have B0 := B0'
         have kB0 : w.heap.size < w2.heap.size := B0.lt
         obtain ⟨B00, B01, B02, B03, B04⟩ := B0.five.1
         clear B0'
         clear hb))
    refine bodyPost_ret (v := .bool true) (by simp [results, Tryz.results4, go_sem]) rfl ⟨rfl, hw3⟩
  · have hR := rightA_RA hr
    rw [hr] at CR0
    by_cases hk : k = 1 ∨ k = 2
    · clear ht
      cases hR with
      | int n h =>
        obtain ⟨u, v, hsub, huv, hlt, hgt, hsg⟩ := trunc_near h
        obtain ⟨v', rfl⟩ : ∃ v' : Nat, v = (v' : Int) := ⟨v.toNat, by have := huv.s0; omega⟩
        refine numbers_main 1 n 0 (truncF n 0) u (v' : Int) (by first | exact .inl rfl | exact .inr rfl) w CA0 CR0 (fun w' hb => ?_) (fun w' hb => ?_) (fun w' hb => ?_) (fun w' => num_is 1 n 0 (bs []) false n 0 rfl w') (fun w' => num_is 1 (truncF n 0) 0 (bs []) false _ 0 rfl w') (fun w' => num_is 2 n 0 (bs []) false n 0 rfl w') (fun w' => ?_) (fun w' => ?_) (fun w' => ?_) ?_
        · have h := cast_any (ofA n) (RA.int n h) (by show (bs []).size ≤ 2000000; decide) 4 m w' (hL.on hb)
          rw [show castF (ofA n) 4 = (truthA (n != 0), 0) from (castF4 rfl).trans rfl] at h
          exact h
        · have h := cast_any (ofA n) (RA.int n h) (by show (bs []).size ≤ 2000000; decide) 1 m w' (hL.on hb)
          rw [show castF (ofA n) 1 = (ofA (truncF n 0), 0) from by rw [trunc0]; rfl] at h
          exact h
        · have h := cast_any (ofA n) (RA.int n h) (by show (bs []).size ≤ 2000000; decide) 2 m w' (hL.on hb)
          rw [show castF (ofA n) 2 = (numA n 0, 0) from (castF2 rfl).trans rfl] at h
          exact h
        · have h := sub_any n (truncF n 0) 0 0 h (trunc_Rt h) w'
          rw [show subF n (0 : Nat) (truncF n 0) (0 : Nat) = (u, (v' : Int), 0) from hsub] at h
          exact h
        · have h := cmp_any u 1 v' 0 huv (Rt.whole (by omega) (by omega)) w'
          rw [show cmpF u (v' : Int) 1 (0 : Nat) = -1 from hlt] at h
          exact h
        · have h := cmp_any u (-1) v' 0 huv (Rt.whole (by omega) (by omega)) w'
          rw [show cmpF u (v' : Int) (-1) (0 : Nat) = 1 from hgt] at h
          exact h
        · by_cases hu : u = 0
          · exact .inl (by simpa using hu)
          · refine .inr ⟨by simpa using hu, ?_⟩
            rcases hsg with h0 | h0
            · exact absurd h0 hu
            · exact h0
      | dec n s h =>
        obtain ⟨s', rfl⟩ : ∃ s' : Nat, s = (s' : Int) := ⟨s.toNat, by have := h.s0; omega⟩
        obtain ⟨u, v, hsub, huv, hlt, hgt, hsg⟩ := trunc_near h
        obtain ⟨v', rfl⟩ : ∃ v' : Nat, v = (v' : Int) := ⟨v.toNat, by have := huv.s0; omega⟩
        refine numbers_main 2 n (s' : Int) (truncF n (s' : Int)) u (v' : Int) (by first | exact .inl rfl | exact .inr rfl) w CA0 CR0 (fun w' hb => ?_) (fun w' hb => ?_) (fun w' hb => ?_) (fun w' => num_is 2 n (s' : Int) (bs []) false n (s' : Int) rfl w') (fun w' => num_is 1 (truncF n (s' : Int)) 0 (bs []) false _ 0 rfl w') (fun w' => num_is 2 n (s' : Int) (bs []) false n (s' : Int) rfl w') (fun w' => ?_) (fun w' => ?_) (fun w' => ?_) ?_
        · have h := cast_any (numA n (s' : Int)) (RA.dec n s' h) (by show (bs []).size ≤ 2000000; decide) 4 m w' (hL.on hb)
          rw [show castF (numA n (s' : Int)) 4 = (truthA (n != 0), 0) from (castF4 rfl).trans rfl] at h
          exact h
        · have h := cast_any (numA n (s' : Int)) (RA.dec n s' h) (by show (bs []).size ≤ 2000000; decide) 1 m w' (hL.on hb)
          rw [show castF (numA n (s' : Int)) 1 = (ofA (truncF n (s' : Int)), 0) from (castF1 rfl).trans rfl] at h
          exact h
        · have h := cast_any (numA n (s' : Int)) (RA.dec n s' h) (by show (bs []).size ≤ 2000000; decide) 2 m w' (hL.on hb)
          rw [show castF (numA n (s' : Int)) 2 = (numA n (s' : Int), 0) from rfl] at h
          exact h
        · have h := sub_any n (truncF n (s' : Int)) s' 0 h (trunc_Rt h) w'
          rw [show subF n (s' : Nat) (truncF n (s' : Int)) (0 : Nat) = (u, (v' : Int), 0) from hsub] at h
          exact h
        · have h := cmp_any u 1 v' 0 huv (Rt.whole (by omega) (by omega)) w'
          rw [show cmpF u (v' : Int) 1 (0 : Nat) = -1 from hlt] at h
          exact h
        · have h := cmp_any u (-1) v' 0 huv (Rt.whole (by omega) (by omega)) w'
          rw [show cmpF u (v' : Int) (-1) (0 : Nat) = 1 from hgt] at h
          exact h
        · by_cases hu : u = 0
          · exact .inl (by simpa using hu)
          · refine .inr ⟨by simpa using hu, ?_⟩
            rcases hsg with h0 | h0
            · exact absurd h0 hu
            · exact h0
      | str t h => omega
      | bool b => omega
      | raw t h => omega
    · have CA := Lib.hid CA0
      have CR := Lib.hid CR0
      have g1 : (k != 1) = true := by simp; omega
      have g2 : (k != 2) = true := by simp; omega
      clear hr ht hL CA0 CR0 hk hR
      go_enter Tryz.func4, Tryz.ntmps4
      go_wp2_with (first
      | (go_at_call 12; with_reducible refine (CA.out _ hw2).mono ?_; rintro e w3 ⟨rfl, hb⟩
         have hw3 := hw2.trans (hb.mono hw2.size)
         clear hb)
      | (go_at_call 12; with_reducible refine (CA.out _ (by go_grown)).mono ?_; rintro e w1 ⟨rfl, hb⟩
         have B0' : Blk w1 w.heap.size #[.int .i64 k, .int .i64 n, .int .i64 s, .string t, .bool b] 24 := (Blk.here rfl (by simp)).below hb (by simp <;> omega)
         have hw1 : Below w.heap.size w w1 := Below.trans (by go_grown) (hb.mono (by simp <;> omega))
         have B0 := B0'
         have kB0 : w.heap.size < w1.heap.size := B0.lt
         obtain ⟨B00, B01, B02, B03, B04⟩ := B0.five.1
         clear B0'
         clear hb)
      | (go_at_call 13; with_reducible refine (CR.out _).mono ?_; rintro e w2 ⟨rfl, hb⟩
         have B0' := B0.below hb B0.lt
         have hw2 : Below w.heap.size w w2 := hw1.trans (hb.mono hw1.size)
         clear B0 kB0 B00 B01 B02 B03 B04
         have B0 := B0'
         have kB0 : w.heap.size < w2.heap.size := B0.lt
         obtain ⟨B00, B01, B02, B03, B04⟩ := B0.five.1
         clear B0'
         clear hb))
      refine bodyPost_ret (v := .bool true) (by simp [results, Tryz.results4, go_sem]) rfl ⟨rfl, hw3⟩

end Go.Proofs.YtaoobajokhcimaaGreatDoor

/- CmpOrders' walk. -/
import Derived.Test.YtaoobajokhcimaaGreatDoorCpH
import Derived.Test.YtaoobajokhcimaaGreatDoorCpI
set_option linter.unusedSimpArgs false
set_option linter.unusedVariables false
set_option linter.constructorNameAsVariable false
namespace Go.Proofs.YtaoobajokhcimaaGreatDoor
open Go.RowKit

set_option maxRecDepth 100000 in
set_option maxHeartbeats 4000000 in
theorem orders_early (k n s : Int) (t : ByteArray) (b : Bool) (k2 n2 s2 : Int) (t2 : ByteArray) (b2 : Bool) (k3 n3 s3 : Int) (t3 : ByteArray) (b3 : Bool) {w : World} (hA : ∀ w', Below w.heap.size w w' → Calls Tryz.prog 29 #[] w' fun e w'' => e = .returned (.bool true) ∧ Below w'.heap.size w' w'') (ra rb rc : Bool) (hR : ∀ w', Calls Tryz.prog 13 #[.agg #[.int .i64 k, .int .i64 n, .int .i64 s, .string t, .bool b]] w' fun e w'' => e = .returned (.bool ra) ∧ Below w'.heap.size w' w'') (hS : ∀ w', Calls Tryz.prog 13 #[.agg #[.int .i64 k2, .int .i64 n2, .int .i64 s2, .string t2, .bool b2]] w' fun e w'' => e = .returned (.bool rb) ∧ Below w'.heap.size w' w'') (hT : ∀ w', Calls Tryz.prog 13 #[.agg #[.int .i64 k3, .int .i64 n3, .int .i64 s3, .string t3, .bool b3]] w' fun e w'' => e = .returned (.bool rc) ∧ Below w'.heap.size w' w'') (h : (ra && (rb && rc)) = false) : Calls Tryz.prog 9 #[.agg #[.int .i64 k, .int .i64 n, .int .i64 s, .string t, .bool b], .agg #[.int .i64 k2, .int .i64 n2, .int .i64 s2, .string t2, .bool b2], .agg #[.int .i64 k3, .int .i64 n3, .int .i64 s3, .string t3, .bool b3]] w fun e w' => e = .returned (.bool true) ∧ Below w.heap.size w w' := by
  have CA := Lib.hid hA
  have RA := Lib.hid hR
  have RB := Lib.hid hS
  have RC := Lib.hid hT
  clear hA hR hS hT
  cases ra
  · clear h
    go_enter Tryz.func9, Tryz.ntmps9
    go_wp2_with (first
      | (go_at_call 29; with_reducible refine (CA.out _ hw2).mono ?_; rintro e w3 ⟨rfl, hb⟩
         have hw3 := hw2.trans (hb.mono hw2.size)
         clear hb)
      | (go_at_call 29; with_reducible refine (CA.out _ (by go_grown)).mono ?_; rintro e w1 ⟨rfl, hb⟩
         have B0' : Blk w1 w.heap.size #[.int .i64 k, .int .i64 n, .int .i64 s, .string t, .bool b] 24 := (((Blk.here rfl (by simp)).alloc _).alloc _).below hb (by simp <;> omega)
         have B1' : Blk w1 (w.heap.size + 1) #[.int .i64 k2, .int .i64 n2, .int .i64 s2, .string t2, .bool b2] 24 := ((Blk.here rfl (by simp)).alloc _).below hb (by simp <;> omega)
         have B2' : Blk w1 (w.heap.size + 1 + 1) #[.int .i64 k3, .int .i64 n3, .int .i64 s3, .string t3, .bool b3] 24 := (Blk.here rfl (by simp)).below hb (by simp <;> omega)
         have hw1 : Below w.heap.size w w1 := Below.trans (by go_grown) (hb.mono (by simp <;> omega))
         have B0 := B0'
         have kB0 : w.heap.size < w1.heap.size := B0.lt
         obtain ⟨B00, B01, B02, B03, B04⟩ := B0.five.1
         have B1 := B1'
         have kB1 : (w.heap.size + 1) < w1.heap.size := B1.lt
         obtain ⟨B10, B11, B12, B13, B14⟩ := B1.five.1
         have B2 := B2'
         have kB2 : (w.heap.size + 1 + 1) < w1.heap.size := B2.lt
         obtain ⟨B20, B21, B22, B23, B24⟩ := B2.five.1
         clear B0' B1' B2'
         clear hb)
      | (go_at_call 13; with_reducible refine (RA.out _).mono ?_; rintro e w2 ⟨rfl, hb⟩
         have B0' := B0.below hb B0.lt
         have B1' := B1.below hb B1.lt
         have B2' := B2.below hb B2.lt
         have hw2 : Below w.heap.size w w2 := hw1.trans (hb.mono hw1.size)
         clear B0 B1 B2 kB0 B00 B01 B02 B03 B04 kB1 B10 B11 B12 B13 B14 kB2 B20 B21 B22 B23 B24
         have B0 := B0'
         have kB0 : w.heap.size < w2.heap.size := B0.lt
         obtain ⟨B00, B01, B02, B03, B04⟩ := B0.five.1
         have B1 := B1'
         have kB1 : (w.heap.size + 1) < w2.heap.size := B1.lt
         obtain ⟨B10, B11, B12, B13, B14⟩ := B1.five.1
         have B2 := B2'
         have kB2 : (w.heap.size + 1 + 1) < w2.heap.size := B2.lt
         obtain ⟨B20, B21, B22, B23, B24⟩ := B2.five.1
         clear B0' B1' B2'
         clear hb))
    refine bodyPost_ret (v := .bool true) (by simp [results, Tryz.results9, go_sem]) rfl ⟨rfl, ?_⟩
    first | exact hw3 | go_grown
  · cases rb
    · clear h
      go_enter Tryz.func9, Tryz.ntmps9
      go_wp2_with (first
      | (go_at_call 29; with_reducible refine (CA.out _ hw3).mono ?_; rintro e w4 ⟨rfl, hb⟩
         have hw4 := hw3.trans (hb.mono hw3.size)
         clear hb)
      | (go_at_call 29; with_reducible refine (CA.out _ (by go_grown)).mono ?_; rintro e w1 ⟨rfl, hb⟩
         have B0' : Blk w1 w.heap.size #[.int .i64 k, .int .i64 n, .int .i64 s, .string t, .bool b] 24 := (((Blk.here rfl (by simp)).alloc _).alloc _).below hb (by simp <;> omega)
         have B1' : Blk w1 (w.heap.size + 1) #[.int .i64 k2, .int .i64 n2, .int .i64 s2, .string t2, .bool b2] 24 := ((Blk.here rfl (by simp)).alloc _).below hb (by simp <;> omega)
         have B2' : Blk w1 (w.heap.size + 1 + 1) #[.int .i64 k3, .int .i64 n3, .int .i64 s3, .string t3, .bool b3] 24 := (Blk.here rfl (by simp)).below hb (by simp <;> omega)
         have hw1 : Below w.heap.size w w1 := Below.trans (by go_grown) (hb.mono (by simp <;> omega))
         have B0 := B0'
         have kB0 : w.heap.size < w1.heap.size := B0.lt
         obtain ⟨B00, B01, B02, B03, B04⟩ := B0.five.1
         have B1 := B1'
         have kB1 : (w.heap.size + 1) < w1.heap.size := B1.lt
         obtain ⟨B10, B11, B12, B13, B14⟩ := B1.five.1
         have B2 := B2'
         have kB2 : (w.heap.size + 1 + 1) < w1.heap.size := B2.lt
         obtain ⟨B20, B21, B22, B23, B24⟩ := B2.five.1
         clear B0' B1' B2'
         clear hb)
      | (go_at_call 13; with_reducible refine (RA.out _).mono ?_; rintro e w2 ⟨rfl, hb⟩
         have B0' := B0.below hb B0.lt
         have B1' := B1.below hb B1.lt
         have B2' := B2.below hb B2.lt
         have hw2 : Below w.heap.size w w2 := hw1.trans (hb.mono hw1.size)
         clear B0 B1 B2 kB0 B00 B01 B02 B03 B04 kB1 B10 B11 B12 B13 B14 kB2 B20 B21 B22 B23 B24
         have B0 := B0'
         have kB0 : w.heap.size < w2.heap.size := B0.lt
         obtain ⟨B00, B01, B02, B03, B04⟩ := B0.five.1
         have B1 := B1'
         have kB1 : (w.heap.size + 1) < w2.heap.size := B1.lt
         obtain ⟨B10, B11, B12, B13, B14⟩ := B1.five.1
         have B2 := B2'
         have kB2 : (w.heap.size + 1 + 1) < w2.heap.size := B2.lt
         obtain ⟨B20, B21, B22, B23, B24⟩ := B2.five.1
         clear B0' B1' B2'
         clear hb)
      | (go_at_call 13; with_reducible refine (RB.out _).mono ?_; rintro e w3 ⟨rfl, hb⟩
         have B0' := B0.below hb B0.lt
         have B1' := B1.below hb B1.lt
         have B2' := B2.below hb B2.lt
         have hw3 : Below w.heap.size w w3 := hw2.trans (hb.mono hw2.size)
         clear B0 B1 B2 kB0 B00 B01 B02 B03 B04 kB1 B10 B11 B12 B13 B14 kB2 B20 B21 B22 B23 B24
         have B0 := B0'
         have kB0 : w.heap.size < w3.heap.size := B0.lt
         obtain ⟨B00, B01, B02, B03, B04⟩ := B0.five.1
         have B1 := B1'
         have kB1 : (w.heap.size + 1) < w3.heap.size := B1.lt
         obtain ⟨B10, B11, B12, B13, B14⟩ := B1.five.1
         have B2 := B2'
         have kB2 : (w.heap.size + 1 + 1) < w3.heap.size := B2.lt
         obtain ⟨B20, B21, B22, B23, B24⟩ := B2.five.1
         clear B0' B1' B2'
         clear hb))
      refine bodyPost_ret (v := .bool true) (by simp [results, Tryz.results9, go_sem]) rfl ⟨rfl, ?_⟩
      first | exact hw4 | go_grown
    · have hb : rc = false := h
      subst hb
      clear h
      go_enter Tryz.func9, Tryz.ntmps9
      go_wp2_with (first
      | (go_at_call 29; with_reducible refine (CA.out _ hw4).mono ?_; rintro e w5 ⟨rfl, hb⟩
         have hw5 := hw4.trans (hb.mono hw4.size)
         clear hb)
      | (go_at_call 29; with_reducible refine (CA.out _ (by go_grown)).mono ?_; rintro e w1 ⟨rfl, hb⟩
         have B0' : Blk w1 w.heap.size #[.int .i64 k, .int .i64 n, .int .i64 s, .string t, .bool b] 24 := (((Blk.here rfl (by simp)).alloc _).alloc _).below hb (by simp <;> omega)
         have B1' : Blk w1 (w.heap.size + 1) #[.int .i64 k2, .int .i64 n2, .int .i64 s2, .string t2, .bool b2] 24 := ((Blk.here rfl (by simp)).alloc _).below hb (by simp <;> omega)
         have B2' : Blk w1 (w.heap.size + 1 + 1) #[.int .i64 k3, .int .i64 n3, .int .i64 s3, .string t3, .bool b3] 24 := (Blk.here rfl (by simp)).below hb (by simp <;> omega)
         have hw1 : Below w.heap.size w w1 := Below.trans (by go_grown) (hb.mono (by simp <;> omega))
         have B0 := B0'
         have kB0 : w.heap.size < w1.heap.size := B0.lt
         obtain ⟨B00, B01, B02, B03, B04⟩ := B0.five.1
         have B1 := B1'
         have kB1 : (w.heap.size + 1) < w1.heap.size := B1.lt
         obtain ⟨B10, B11, B12, B13, B14⟩ := B1.five.1
         have B2 := B2'
         have kB2 : (w.heap.size + 1 + 1) < w1.heap.size := B2.lt
         obtain ⟨B20, B21, B22, B23, B24⟩ := B2.five.1
         clear B0' B1' B2'
         clear hb)
      | (go_at_call 13; with_reducible refine (RA.out _).mono ?_; rintro e w2 ⟨rfl, hb⟩
         have B0' := B0.below hb B0.lt
         have B1' := B1.below hb B1.lt
         have B2' := B2.below hb B2.lt
         have hw2 : Below w.heap.size w w2 := hw1.trans (hb.mono hw1.size)
         clear B0 B1 B2 kB0 B00 B01 B02 B03 B04 kB1 B10 B11 B12 B13 B14 kB2 B20 B21 B22 B23 B24
         have B0 := B0'
         have kB0 : w.heap.size < w2.heap.size := B0.lt
         obtain ⟨B00, B01, B02, B03, B04⟩ := B0.five.1
         have B1 := B1'
         have kB1 : (w.heap.size + 1) < w2.heap.size := B1.lt
         obtain ⟨B10, B11, B12, B13, B14⟩ := B1.five.1
         have B2 := B2'
         have kB2 : (w.heap.size + 1 + 1) < w2.heap.size := B2.lt
         obtain ⟨B20, B21, B22, B23, B24⟩ := B2.five.1
         clear B0' B1' B2'
         clear hb)
      | (go_at_call 13; with_reducible refine (RB.out _).mono ?_; rintro e w3 ⟨rfl, hb⟩
         have B0' := B0.below hb B0.lt
         have B1' := B1.below hb B1.lt
         have B2' := B2.below hb B2.lt
         have hw3 : Below w.heap.size w w3 := hw2.trans (hb.mono hw2.size)
         clear B0 B1 B2 kB0 B00 B01 B02 B03 B04 kB1 B10 B11 B12 B13 B14 kB2 B20 B21 B22 B23 B24
         have B0 := B0'
         have kB0 : w.heap.size < w3.heap.size := B0.lt
         obtain ⟨B00, B01, B02, B03, B04⟩ := B0.five.1
         have B1 := B1'
         have kB1 : (w.heap.size + 1) < w3.heap.size := B1.lt
         obtain ⟨B10, B11, B12, B13, B14⟩ := B1.five.1
         have B2 := B2'
         have kB2 : (w.heap.size + 1 + 1) < w3.heap.size := B2.lt
         obtain ⟨B20, B21, B22, B23, B24⟩ := B2.five.1
         clear B0' B1' B2'
         clear hb)
      | (go_at_call 13; with_reducible refine (RC.out _).mono ?_; rintro e w4 ⟨rfl, hb⟩
         have B0' := B0.below hb B0.lt
         have B1' := B1.below hb B1.lt
         have B2' := B2.below hb B2.lt
         have hw4 : Below w.heap.size w w4 := hw3.trans (hb.mono hw3.size)
         clear B0 B1 B2 kB0 B00 B01 B02 B03 B04 kB1 B10 B11 B12 B13 B14 kB2 B20 B21 B22 B23 B24
         have B0 := B0'
         have kB0 : w.heap.size < w4.heap.size := B0.lt
         obtain ⟨B00, B01, B02, B03, B04⟩ := B0.five.1
         have B1 := B1'
         have kB1 : (w.heap.size + 1) < w4.heap.size := B1.lt
         obtain ⟨B10, B11, B12, B13, B14⟩ := B1.five.1
         have B2 := B2'
         have kB2 : (w.heap.size + 1 + 1) < w4.heap.size := B2.lt
         obtain ⟨B20, B21, B22, B23, B24⟩ := B2.five.1
         clear B0' B1' B2'
         clear hb))
      refine bodyPost_ret (v := .bool true) (by simp [results, Tryz.results9, go_sem]) rfl ⟨rfl, ?_⟩
      first | exact hw5 | go_grown

set_option maxRecDepth 100000 in
set_option maxHeartbeats 8000000 in
theorem orders_main (k n s : Int) (t : ByteArray) (b : Bool) (k2 n2 s2 : Int) (t2 : ByteArray) (b2 : Bool) (k3 n3 s3 : Int) (t3 : ByteArray) (b3 : Bool) {w : World} (hA : ∀ w', Below w.heap.size w w' → Calls Tryz.prog 29 #[] w' fun e w'' => e = .returned (.bool true) ∧ Below w'.heap.size w' w'') (hR : ∀ w', Calls Tryz.prog 13 #[.agg #[.int .i64 k, .int .i64 n, .int .i64 s, .string t, .bool b]] w' fun e w'' => e = .returned (.bool true) ∧ Below w'.heap.size w' w'') (hS : ∀ w', Calls Tryz.prog 13 #[.agg #[.int .i64 k2, .int .i64 n2, .int .i64 s2, .string t2, .bool b2]] w' fun e w'' => e = .returned (.bool true) ∧ Below w'.heap.size w' w'') (hT : ∀ w', Calls Tryz.prog 13 #[.agg #[.int .i64 k3, .int .i64 n3, .int .i64 s3, .string t3, .bool b3]] w' fun e w'' => e = .returned (.bool true) ∧ Below w'.heap.size w' w'') (x er y z g u h : Int)
    (h1 : ∀ w', Calls Tryz.prog 35 #[.agg #[.int .i64 k, .int .i64 n, .int .i64 s, .string t, .bool b], .agg #[.int .i64 k2, .int .i64 n2, .int .i64 s2, .string t2, .bool b2]] w' fun e w'' => e = .returned (.tuple #[.int .i64 x, .int .i64 er]) ∧ Below w'.heap.size w' w'') (h2 : ∀ w', Calls Tryz.prog 35 #[.agg #[.int .i64 k2, .int .i64 n2, .int .i64 s2, .string t2, .bool b2], .agg #[.int .i64 k, .int .i64 n, .int .i64 s, .string t, .bool b]] w' fun e w'' => e = .returned (.tuple #[.int .i64 y, .int .i64 er]) ∧ Below w'.heap.size w' w'') (h3 : ∀ w', Calls Tryz.prog 35 #[.agg #[.int .i64 k2, .int .i64 n2, .int .i64 s2, .string t2, .bool b2], .agg #[.int .i64 k3, .int .i64 n3, .int .i64 s3, .string t3, .bool b3]] w' fun e w'' => e = .returned (.tuple #[.int .i64 z, .int .i64 g]) ∧ Below w'.heap.size w' w'') (h4 : ∀ w', Calls Tryz.prog 35 #[.agg #[.int .i64 k, .int .i64 n, .int .i64 s, .string t, .bool b], .agg #[.int .i64 k3, .int .i64 n3, .int .i64 s3, .string t3, .bool b3]] w' fun e w'' => e = .returned (.tuple #[.int .i64 u, .int .i64 h]) ∧ Below w'.heap.size w' w'') (h5 : ∀ w', Calls Tryz.prog 35 #[.agg #[.int .i64 k, .int .i64 n, .int .i64 s, .string t, .bool b], .agg #[.int .i64 k, .int .i64 n, .int .i64 s, .string t, .bool b]] w' fun e w'' => e = .returned (.tuple #[.int .i64 0, .int .i64 0]) ∧ Below w'.heap.size w' w'') (H : Ords x er y z g u h) :
    Calls Tryz.prog 9 #[.agg #[.int .i64 k, .int .i64 n, .int .i64 s, .string t, .bool b], .agg #[.int .i64 k2, .int .i64 n2, .int .i64 s2, .string t2, .bool b2], .agg #[.int .i64 k3, .int .i64 n3, .int .i64 s3, .string t3, .bool b3]] w fun e w' => e = .returned (.bool true) ∧ Below w.heap.size w w' := by
  have CA := Lib.hid hA
  have RA := Lib.hid hR
  have RB := Lib.hid hS
  have RC := Lib.hid hT
  have C1 := Lib.hid h1
  have C2 := Lib.hid h2
  have C3 := Lib.hid h3
  have C4 := Lib.hid h4
  have C5 := Lib.hid h5
  clear hA hR hS hT h1 h2 h3 h4 h5
  obtain ⟨p1, x3, z3, q1, q2, q3, q4, q5⟩ := H
  by_cases e0 : er = 0
  · subst e0
    by_cases g0 : g = 0
    · subst g0
      have h0 := q2 rfl rfl
      subst h0
      have q3 := q3 rfl rfl
      have q4 := q4 rfl rfl
      have q5 := q5 rfl rfl
      clear q1 q2
      rcases x3 with rfl | rfl | rfl
      · rcases z3 with rfl | rfl | rfl
        · have d1 : u < 0 := q5 (by omega) (by omega)
          have d2 : u ≤ 0 := by omega
          clear q3 q4 q5
          go_enter Tryz.func9, Tryz.ntmps9
          go_wp2_with (first
      | (go_at_call 29; with_reducible refine (CA.out _ (by go_grown)).mono ?_; rintro e w1 ⟨rfl, hb⟩
         have B0' : Blk w1 w.heap.size #[.int .i64 k, .int .i64 n, .int .i64 s, .string t, .bool b] 24 := (((Blk.here rfl (by simp)).alloc _).alloc _).below hb (by simp <;> omega)
         have B1' : Blk w1 (w.heap.size + 1) #[.int .i64 k2, .int .i64 n2, .int .i64 s2, .string t2, .bool b2] 24 := ((Blk.here rfl (by simp)).alloc _).below hb (by simp <;> omega)
         have B2' : Blk w1 (w.heap.size + 1 + 1) #[.int .i64 k3, .int .i64 n3, .int .i64 s3, .string t3, .bool b3] 24 := (Blk.here rfl (by simp)).below hb (by simp <;> omega)
         have hw1 : Below w.heap.size w w1 := Below.trans (by go_grown) (hb.mono (by simp <;> omega))
         have B0 := B0'
         have kB0 : w.heap.size < w1.heap.size := B0.lt
         obtain ⟨B00, B01, B02, B03, B04⟩ := B0.five.1
         have B1 := B1'
         have kB1 : (w.heap.size + 1) < w1.heap.size := B1.lt
         obtain ⟨B10, B11, B12, B13, B14⟩ := B1.five.1
         have B2 := B2'
         have kB2 : (w.heap.size + 1 + 1) < w1.heap.size := B2.lt
         obtain ⟨B20, B21, B22, B23, B24⟩ := B2.five.1
         clear B0' B1' B2'
         clear hb)
      | (go_at_call 13; with_reducible refine (RA.out _).mono ?_; rintro e w2 ⟨rfl, hb⟩
         have B0' := B0.below hb B0.lt
         have B1' := B1.below hb B1.lt
         have B2' := B2.below hb B2.lt
         have hw2 : Below w.heap.size w w2 := hw1.trans (hb.mono hw1.size)
         clear B0 B1 B2 kB0 B00 B01 B02 B03 B04 kB1 B10 B11 B12 B13 B14 kB2 B20 B21 B22 B23 B24
         have B0 := B0'
         have kB0 : w.heap.size < w2.heap.size := B0.lt
         obtain ⟨B00, B01, B02, B03, B04⟩ := B0.five.1
         have B1 := B1'
         have kB1 : (w.heap.size + 1) < w2.heap.size := B1.lt
         obtain ⟨B10, B11, B12, B13, B14⟩ := B1.five.1
         have B2 := B2'
         have kB2 : (w.heap.size + 1 + 1) < w2.heap.size := B2.lt
         obtain ⟨B20, B21, B22, B23, B24⟩ := B2.five.1
         clear B0' B1' B2'
         clear hb)
      | (go_at_call 13; with_reducible refine (RB.out _).mono ?_; rintro e w3 ⟨rfl, hb⟩
         have B0' := B0.below hb B0.lt
         have B1' := B1.below hb B1.lt
         have B2' := B2.below hb B2.lt
         have hw3 : Below w.heap.size w w3 := hw2.trans (hb.mono hw2.size)
         clear B0 B1 B2 kB0 B00 B01 B02 B03 B04 kB1 B10 B11 B12 B13 B14 kB2 B20 B21 B22 B23 B24
         have B0 := B0'
         have kB0 : w.heap.size < w3.heap.size := B0.lt
         obtain ⟨B00, B01, B02, B03, B04⟩ := B0.five.1
         have B1 := B1'
         have kB1 : (w.heap.size + 1) < w3.heap.size := B1.lt
         obtain ⟨B10, B11, B12, B13, B14⟩ := B1.five.1
         have B2 := B2'
         have kB2 : (w.heap.size + 1 + 1) < w3.heap.size := B2.lt
         obtain ⟨B20, B21, B22, B23, B24⟩ := B2.five.1
         clear B0' B1' B2'
         clear hb)
      | (go_at_call 13; with_reducible refine (RC.out _).mono ?_; rintro e w4 ⟨rfl, hb⟩
         have B0' := B0.below hb B0.lt
         have B1' := B1.below hb B1.lt
         have B2' := B2.below hb B2.lt
         have hw4 : Below w.heap.size w w4 := hw3.trans (hb.mono hw3.size)
         clear B0 B1 B2 kB0 B00 B01 B02 B03 B04 kB1 B10 B11 B12 B13 B14 kB2 B20 B21 B22 B23 B24
         have B0 := B0'
         have kB0 : w.heap.size < w4.heap.size := B0.lt
         obtain ⟨B00, B01, B02, B03, B04⟩ := B0.five.1
         have B1 := B1'
         have kB1 : (w.heap.size + 1) < w4.heap.size := B1.lt
         obtain ⟨B10, B11, B12, B13, B14⟩ := B1.five.1
         have B2 := B2'
         have kB2 : (w.heap.size + 1 + 1) < w4.heap.size := B2.lt
         obtain ⟨B20, B21, B22, B23, B24⟩ := B2.five.1
         clear B0' B1' B2'
         clear hb)
      | (go_at_call 35; with_reducible refine (C1.out _).mono ?_; rintro e w5 ⟨rfl, hb⟩
         have B0' := B0.below hb B0.lt
         have B1' := B1.below hb B1.lt
         have B2' := B2.below hb B2.lt
         have hw5 : Below w.heap.size w w5 := hw4.trans (hb.mono hw4.size)
         clear B0 B1 B2 kB0 B00 B01 B02 B03 B04 kB1 B10 B11 B12 B13 B14 kB2 B20 B21 B22 B23 B24
         have B0 := B0'
         have kB0 : w.heap.size < w5.heap.size := B0.lt
         obtain ⟨B00, B01, B02, B03, B04⟩ := B0.five.1
         have B1 := B1'
         have kB1 : (w.heap.size + 1) < w5.heap.size := B1.lt
         obtain ⟨B10, B11, B12, B13, B14⟩ := B1.five.1
         have B2 := B2'
         have kB2 : (w.heap.size + 1 + 1) < w5.heap.size := B2.lt
         obtain ⟨B20, B21, B22, B23, B24⟩ := B2.five.1
         clear B0' B1' B2'
         clear hb)
      | (go_at_call 35; with_reducible refine (C2.out _).mono ?_; rintro e w6 ⟨rfl, hb⟩
         have B0' := B0.below hb B0.lt
         have B1' := B1.below hb B1.lt
         have B2' := B2.below hb B2.lt
         have hw6 : Below w.heap.size w w6 := hw5.trans (hb.mono hw5.size)
         clear B0 B1 B2 kB0 B00 B01 B02 B03 B04 kB1 B10 B11 B12 B13 B14 kB2 B20 B21 B22 B23 B24
         have B0 := B0'
         have kB0 : w.heap.size < w6.heap.size := B0.lt
         obtain ⟨B00, B01, B02, B03, B04⟩ := B0.five.1
         have B1 := B1'
         have kB1 : (w.heap.size + 1) < w6.heap.size := B1.lt
         obtain ⟨B10, B11, B12, B13, B14⟩ := B1.five.1
         have B2 := B2'
         have kB2 : (w.heap.size + 1 + 1) < w6.heap.size := B2.lt
         obtain ⟨B20, B21, B22, B23, B24⟩ := B2.five.1
         clear B0' B1' B2'
         clear hb)
      | (go_at_call 35; with_reducible refine (C3.out _).mono ?_; rintro e w7 ⟨rfl, hb⟩
         have B0' := B0.below hb B0.lt
         have B1' := B1.below hb B1.lt
         have B2' := B2.below hb B2.lt
         have hw7 : Below w.heap.size w w7 := hw6.trans (hb.mono hw6.size)
         clear B0 B1 B2 kB0 B00 B01 B02 B03 B04 kB1 B10 B11 B12 B13 B14 kB2 B20 B21 B22 B23 B24
         have B0 := B0'
         have kB0 : w.heap.size < w7.heap.size := B0.lt
         obtain ⟨B00, B01, B02, B03, B04⟩ := B0.five.1
         have B1 := B1'
         have kB1 : (w.heap.size + 1) < w7.heap.size := B1.lt
         obtain ⟨B10, B11, B12, B13, B14⟩ := B1.five.1
         have B2 := B2'
         have kB2 : (w.heap.size + 1 + 1) < w7.heap.size := B2.lt
         obtain ⟨B20, B21, B22, B23, B24⟩ := B2.five.1
         clear B0' B1' B2'
         clear hb)
      | (go_at_call 35; with_reducible refine (C4.out _).mono ?_; rintro e w8 ⟨rfl, hb⟩
         have B0' := B0.below hb B0.lt
         have B1' := B1.below hb B1.lt
         have B2' := B2.below hb B2.lt
         have hw8 : Below w.heap.size w w8 := hw7.trans (hb.mono hw7.size)
         clear B0 B1 B2 kB0 B00 B01 B02 B03 B04 kB1 B10 B11 B12 B13 B14 kB2 B20 B21 B22 B23 B24
         have B0 := B0'
         have kB0 : w.heap.size < w8.heap.size := B0.lt
         obtain ⟨B00, B01, B02, B03, B04⟩ := B0.five.1
         have B1 := B1'
         have kB1 : (w.heap.size + 1) < w8.heap.size := B1.lt
         obtain ⟨B10, B11, B12, B13, B14⟩ := B1.five.1
         have B2 := B2'
         have kB2 : (w.heap.size + 1 + 1) < w8.heap.size := B2.lt
         obtain ⟨B20, B21, B22, B23, B24⟩ := B2.five.1
         clear B0' B1' B2'
         clear hb)
      | (go_at_call 35; with_reducible refine (C5.out _).mono ?_; rintro e w9 ⟨rfl, hb⟩
         have B0' := B0.below hb B0.lt
         have B1' := B1.below hb B1.lt
         have B2' := B2.below hb B2.lt
         have hw9 : Below w.heap.size w w9 := hw8.trans (hb.mono hw8.size)
         clear B0 B1 B2 kB0 B00 B01 B02 B03 B04 kB1 B10 B11 B12 B13 B14 kB2 B20 B21 B22 B23 B24
         have B0 := B0'
         have kB0 : w.heap.size < w9.heap.size := B0.lt
         obtain ⟨B00, B01, B02, B03, B04⟩ := B0.five.1
         have B1 := B1'
         have kB1 : (w.heap.size + 1) < w9.heap.size := B1.lt
         obtain ⟨B10, B11, B12, B13, B14⟩ := B1.five.1
         have B2 := B2'
         have kB2 : (w.heap.size + 1 + 1) < w9.heap.size := B2.lt
         obtain ⟨B20, B21, B22, B23, B24⟩ := B2.five.1
         clear B0' B1' B2'
         clear hb))
          refine bodyPost_ret (v := .bool true) (by simp [results, Tryz.results9, go_sem]) rfl ⟨rfl, ?_⟩
          first | exact hw9 | go_grown
        · have d1 : u < 0 := q5 (by omega) (by omega)
          have d2 : u ≤ 0 := by omega
          clear q3 q4 q5
          go_enter Tryz.func9, Tryz.ntmps9
          go_wp2_with (first
      | (go_at_call 29; with_reducible refine (CA.out _ (by go_grown)).mono ?_; rintro e w1 ⟨rfl, hb⟩
         have B0' : Blk w1 w.heap.size #[.int .i64 k, .int .i64 n, .int .i64 s, .string t, .bool b] 24 := (((Blk.here rfl (by simp)).alloc _).alloc _).below hb (by simp <;> omega)
         have B1' : Blk w1 (w.heap.size + 1) #[.int .i64 k2, .int .i64 n2, .int .i64 s2, .string t2, .bool b2] 24 := ((Blk.here rfl (by simp)).alloc _).below hb (by simp <;> omega)
         have B2' : Blk w1 (w.heap.size + 1 + 1) #[.int .i64 k3, .int .i64 n3, .int .i64 s3, .string t3, .bool b3] 24 := (Blk.here rfl (by simp)).below hb (by simp <;> omega)
         have hw1 : Below w.heap.size w w1 := Below.trans (by go_grown) (hb.mono (by simp <;> omega))
         have B0 := B0'
         have kB0 : w.heap.size < w1.heap.size := B0.lt
         obtain ⟨B00, B01, B02, B03, B04⟩ := B0.five.1
         have B1 := B1'
         have kB1 : (w.heap.size + 1) < w1.heap.size := B1.lt
         obtain ⟨B10, B11, B12, B13, B14⟩ := B1.five.1
         have B2 := B2'
         have kB2 : (w.heap.size + 1 + 1) < w1.heap.size := B2.lt
         obtain ⟨B20, B21, B22, B23, B24⟩ := B2.five.1
         clear B0' B1' B2'
         clear hb)
      | (go_at_call 13; with_reducible refine (RA.out _).mono ?_; rintro e w2 ⟨rfl, hb⟩
         have B0' := B0.below hb B0.lt
         have B1' := B1.below hb B1.lt
         have B2' := B2.below hb B2.lt
         have hw2 : Below w.heap.size w w2 := hw1.trans (hb.mono hw1.size)
         clear B0 B1 B2 kB0 B00 B01 B02 B03 B04 kB1 B10 B11 B12 B13 B14 kB2 B20 B21 B22 B23 B24
         have B0 := B0'
         have kB0 : w.heap.size < w2.heap.size := B0.lt
         obtain ⟨B00, B01, B02, B03, B04⟩ := B0.five.1
         have B1 := B1'
         have kB1 : (w.heap.size + 1) < w2.heap.size := B1.lt
         obtain ⟨B10, B11, B12, B13, B14⟩ := B1.five.1
         have B2 := B2'
         have kB2 : (w.heap.size + 1 + 1) < w2.heap.size := B2.lt
         obtain ⟨B20, B21, B22, B23, B24⟩ := B2.five.1
         clear B0' B1' B2'
         clear hb)
      | (go_at_call 13; with_reducible refine (RB.out _).mono ?_; rintro e w3 ⟨rfl, hb⟩
         have B0' := B0.below hb B0.lt
         have B1' := B1.below hb B1.lt
         have B2' := B2.below hb B2.lt
         have hw3 : Below w.heap.size w w3 := hw2.trans (hb.mono hw2.size)
         clear B0 B1 B2 kB0 B00 B01 B02 B03 B04 kB1 B10 B11 B12 B13 B14 kB2 B20 B21 B22 B23 B24
         have B0 := B0'
         have kB0 : w.heap.size < w3.heap.size := B0.lt
         obtain ⟨B00, B01, B02, B03, B04⟩ := B0.five.1
         have B1 := B1'
         have kB1 : (w.heap.size + 1) < w3.heap.size := B1.lt
         obtain ⟨B10, B11, B12, B13, B14⟩ := B1.five.1
         have B2 := B2'
         have kB2 : (w.heap.size + 1 + 1) < w3.heap.size := B2.lt
         obtain ⟨B20, B21, B22, B23, B24⟩ := B2.five.1
         clear B0' B1' B2'
         clear hb)
      | (go_at_call 13; with_reducible refine (RC.out _).mono ?_; rintro e w4 ⟨rfl, hb⟩
         have B0' := B0.below hb B0.lt
         have B1' := B1.below hb B1.lt
         have B2' := B2.below hb B2.lt
         have hw4 : Below w.heap.size w w4 := hw3.trans (hb.mono hw3.size)
         clear B0 B1 B2 kB0 B00 B01 B02 B03 B04 kB1 B10 B11 B12 B13 B14 kB2 B20 B21 B22 B23 B24
         have B0 := B0'
         have kB0 : w.heap.size < w4.heap.size := B0.lt
         obtain ⟨B00, B01, B02, B03, B04⟩ := B0.five.1
         have B1 := B1'
         have kB1 : (w.heap.size + 1) < w4.heap.size := B1.lt
         obtain ⟨B10, B11, B12, B13, B14⟩ := B1.five.1
         have B2 := B2'
         have kB2 : (w.heap.size + 1 + 1) < w4.heap.size := B2.lt
         obtain ⟨B20, B21, B22, B23, B24⟩ := B2.five.1
         clear B0' B1' B2'
         clear hb)
      | (go_at_call 35; with_reducible refine (C1.out _).mono ?_; rintro e w5 ⟨rfl, hb⟩
         have B0' := B0.below hb B0.lt
         have B1' := B1.below hb B1.lt
         have B2' := B2.below hb B2.lt
         have hw5 : Below w.heap.size w w5 := hw4.trans (hb.mono hw4.size)
         clear B0 B1 B2 kB0 B00 B01 B02 B03 B04 kB1 B10 B11 B12 B13 B14 kB2 B20 B21 B22 B23 B24
         have B0 := B0'
         have kB0 : w.heap.size < w5.heap.size := B0.lt
         obtain ⟨B00, B01, B02, B03, B04⟩ := B0.five.1
         have B1 := B1'
         have kB1 : (w.heap.size + 1) < w5.heap.size := B1.lt
         obtain ⟨B10, B11, B12, B13, B14⟩ := B1.five.1
         have B2 := B2'
         have kB2 : (w.heap.size + 1 + 1) < w5.heap.size := B2.lt
         obtain ⟨B20, B21, B22, B23, B24⟩ := B2.five.1
         clear B0' B1' B2'
         clear hb)
      | (go_at_call 35; with_reducible refine (C2.out _).mono ?_; rintro e w6 ⟨rfl, hb⟩
         have B0' := B0.below hb B0.lt
         have B1' := B1.below hb B1.lt
         have B2' := B2.below hb B2.lt
         have hw6 : Below w.heap.size w w6 := hw5.trans (hb.mono hw5.size)
         clear B0 B1 B2 kB0 B00 B01 B02 B03 B04 kB1 B10 B11 B12 B13 B14 kB2 B20 B21 B22 B23 B24
         have B0 := B0'
         have kB0 : w.heap.size < w6.heap.size := B0.lt
         obtain ⟨B00, B01, B02, B03, B04⟩ := B0.five.1
         have B1 := B1'
         have kB1 : (w.heap.size + 1) < w6.heap.size := B1.lt
         obtain ⟨B10, B11, B12, B13, B14⟩ := B1.five.1
         have B2 := B2'
         have kB2 : (w.heap.size + 1 + 1) < w6.heap.size := B2.lt
         obtain ⟨B20, B21, B22, B23, B24⟩ := B2.five.1
         clear B0' B1' B2'
         clear hb)
      | (go_at_call 35; with_reducible refine (C3.out _).mono ?_; rintro e w7 ⟨rfl, hb⟩
         have B0' := B0.below hb B0.lt
         have B1' := B1.below hb B1.lt
         have B2' := B2.below hb B2.lt
         have hw7 : Below w.heap.size w w7 := hw6.trans (hb.mono hw6.size)
         clear B0 B1 B2 kB0 B00 B01 B02 B03 B04 kB1 B10 B11 B12 B13 B14 kB2 B20 B21 B22 B23 B24
         have B0 := B0'
         have kB0 : w.heap.size < w7.heap.size := B0.lt
         obtain ⟨B00, B01, B02, B03, B04⟩ := B0.five.1
         have B1 := B1'
         have kB1 : (w.heap.size + 1) < w7.heap.size := B1.lt
         obtain ⟨B10, B11, B12, B13, B14⟩ := B1.five.1
         have B2 := B2'
         have kB2 : (w.heap.size + 1 + 1) < w7.heap.size := B2.lt
         obtain ⟨B20, B21, B22, B23, B24⟩ := B2.five.1
         clear B0' B1' B2'
         clear hb)
      | (go_at_call 35; with_reducible refine (C4.out _).mono ?_; rintro e w8 ⟨rfl, hb⟩
         have B0' := B0.below hb B0.lt
         have B1' := B1.below hb B1.lt
         have B2' := B2.below hb B2.lt
         have hw8 : Below w.heap.size w w8 := hw7.trans (hb.mono hw7.size)
         clear B0 B1 B2 kB0 B00 B01 B02 B03 B04 kB1 B10 B11 B12 B13 B14 kB2 B20 B21 B22 B23 B24
         have B0 := B0'
         have kB0 : w.heap.size < w8.heap.size := B0.lt
         obtain ⟨B00, B01, B02, B03, B04⟩ := B0.five.1
         have B1 := B1'
         have kB1 : (w.heap.size + 1) < w8.heap.size := B1.lt
         obtain ⟨B10, B11, B12, B13, B14⟩ := B1.five.1
         have B2 := B2'
         have kB2 : (w.heap.size + 1 + 1) < w8.heap.size := B2.lt
         obtain ⟨B20, B21, B22, B23, B24⟩ := B2.five.1
         clear B0' B1' B2'
         clear hb)
      | (go_at_call 35; with_reducible refine (C5.out _).mono ?_; rintro e w9 ⟨rfl, hb⟩
         have B0' := B0.below hb B0.lt
         have B1' := B1.below hb B1.lt
         have B2' := B2.below hb B2.lt
         have hw9 : Below w.heap.size w w9 := hw8.trans (hb.mono hw8.size)
         clear B0 B1 B2 kB0 B00 B01 B02 B03 B04 kB1 B10 B11 B12 B13 B14 kB2 B20 B21 B22 B23 B24
         have B0 := B0'
         have kB0 : w.heap.size < w9.heap.size := B0.lt
         obtain ⟨B00, B01, B02, B03, B04⟩ := B0.five.1
         have B1 := B1'
         have kB1 : (w.heap.size + 1) < w9.heap.size := B1.lt
         obtain ⟨B10, B11, B12, B13, B14⟩ := B1.five.1
         have B2 := B2'
         have kB2 : (w.heap.size + 1 + 1) < w9.heap.size := B2.lt
         obtain ⟨B20, B21, B22, B23, B24⟩ := B2.five.1
         clear B0' B1' B2'
         clear hb))
          refine bodyPost_ret (v := .bool true) (by simp [results, Tryz.results9, go_sem]) rfl ⟨rfl, ?_⟩
          first | exact hw9 | go_grown
        · clear q3 q4 q5
          go_enter Tryz.func9, Tryz.ntmps9
          go_wp2_with (first
      | (go_at_call 29; with_reducible refine (CA.out _ (by go_grown)).mono ?_; rintro e w1 ⟨rfl, hb⟩
         have B0' : Blk w1 w.heap.size #[.int .i64 k, .int .i64 n, .int .i64 s, .string t, .bool b] 24 := (((Blk.here rfl (by simp)).alloc _).alloc _).below hb (by simp <;> omega)
         have B1' : Blk w1 (w.heap.size + 1) #[.int .i64 k2, .int .i64 n2, .int .i64 s2, .string t2, .bool b2] 24 := ((Blk.here rfl (by simp)).alloc _).below hb (by simp <;> omega)
         have B2' : Blk w1 (w.heap.size + 1 + 1) #[.int .i64 k3, .int .i64 n3, .int .i64 s3, .string t3, .bool b3] 24 := (Blk.here rfl (by simp)).below hb (by simp <;> omega)
         have hw1 : Below w.heap.size w w1 := Below.trans (by go_grown) (hb.mono (by simp <;> omega))
         have B0 := B0'
         have kB0 : w.heap.size < w1.heap.size := B0.lt
         obtain ⟨B00, B01, B02, B03, B04⟩ := B0.five.1
         have B1 := B1'
         have kB1 : (w.heap.size + 1) < w1.heap.size := B1.lt
         obtain ⟨B10, B11, B12, B13, B14⟩ := B1.five.1
         have B2 := B2'
         have kB2 : (w.heap.size + 1 + 1) < w1.heap.size := B2.lt
         obtain ⟨B20, B21, B22, B23, B24⟩ := B2.five.1
         clear B0' B1' B2'
         clear hb)
      | (go_at_call 13; with_reducible refine (RA.out _).mono ?_; rintro e w2 ⟨rfl, hb⟩
         have B0' := B0.below hb B0.lt
         have B1' := B1.below hb B1.lt
         have B2' := B2.below hb B2.lt
         have hw2 : Below w.heap.size w w2 := hw1.trans (hb.mono hw1.size)
         clear B0 B1 B2 kB0 B00 B01 B02 B03 B04 kB1 B10 B11 B12 B13 B14 kB2 B20 B21 B22 B23 B24
         have B0 := B0'
         have kB0 : w.heap.size < w2.heap.size := B0.lt
         obtain ⟨B00, B01, B02, B03, B04⟩ := B0.five.1
         have B1 := B1'
         have kB1 : (w.heap.size + 1) < w2.heap.size := B1.lt
         obtain ⟨B10, B11, B12, B13, B14⟩ := B1.five.1
         have B2 := B2'
         have kB2 : (w.heap.size + 1 + 1) < w2.heap.size := B2.lt
         obtain ⟨B20, B21, B22, B23, B24⟩ := B2.five.1
         clear B0' B1' B2'
         clear hb)
      | (go_at_call 13; with_reducible refine (RB.out _).mono ?_; rintro e w3 ⟨rfl, hb⟩
         have B0' := B0.below hb B0.lt
         have B1' := B1.below hb B1.lt
         have B2' := B2.below hb B2.lt
         have hw3 : Below w.heap.size w w3 := hw2.trans (hb.mono hw2.size)
         clear B0 B1 B2 kB0 B00 B01 B02 B03 B04 kB1 B10 B11 B12 B13 B14 kB2 B20 B21 B22 B23 B24
         have B0 := B0'
         have kB0 : w.heap.size < w3.heap.size := B0.lt
         obtain ⟨B00, B01, B02, B03, B04⟩ := B0.five.1
         have B1 := B1'
         have kB1 : (w.heap.size + 1) < w3.heap.size := B1.lt
         obtain ⟨B10, B11, B12, B13, B14⟩ := B1.five.1
         have B2 := B2'
         have kB2 : (w.heap.size + 1 + 1) < w3.heap.size := B2.lt
         obtain ⟨B20, B21, B22, B23, B24⟩ := B2.five.1
         clear B0' B1' B2'
         clear hb)
      | (go_at_call 13; with_reducible refine (RC.out _).mono ?_; rintro e w4 ⟨rfl, hb⟩
         have B0' := B0.below hb B0.lt
         have B1' := B1.below hb B1.lt
         have B2' := B2.below hb B2.lt
         have hw4 : Below w.heap.size w w4 := hw3.trans (hb.mono hw3.size)
         clear B0 B1 B2 kB0 B00 B01 B02 B03 B04 kB1 B10 B11 B12 B13 B14 kB2 B20 B21 B22 B23 B24
         have B0 := B0'
         have kB0 : w.heap.size < w4.heap.size := B0.lt
         obtain ⟨B00, B01, B02, B03, B04⟩ := B0.five.1
         have B1 := B1'
         have kB1 : (w.heap.size + 1) < w4.heap.size := B1.lt
         obtain ⟨B10, B11, B12, B13, B14⟩ := B1.five.1
         have B2 := B2'
         have kB2 : (w.heap.size + 1 + 1) < w4.heap.size := B2.lt
         obtain ⟨B20, B21, B22, B23, B24⟩ := B2.five.1
         clear B0' B1' B2'
         clear hb)
      | (go_at_call 35; with_reducible refine (C1.out _).mono ?_; rintro e w5 ⟨rfl, hb⟩
         have B0' := B0.below hb B0.lt
         have B1' := B1.below hb B1.lt
         have B2' := B2.below hb B2.lt
         have hw5 : Below w.heap.size w w5 := hw4.trans (hb.mono hw4.size)
         clear B0 B1 B2 kB0 B00 B01 B02 B03 B04 kB1 B10 B11 B12 B13 B14 kB2 B20 B21 B22 B23 B24
         have B0 := B0'
         have kB0 : w.heap.size < w5.heap.size := B0.lt
         obtain ⟨B00, B01, B02, B03, B04⟩ := B0.five.1
         have B1 := B1'
         have kB1 : (w.heap.size + 1) < w5.heap.size := B1.lt
         obtain ⟨B10, B11, B12, B13, B14⟩ := B1.five.1
         have B2 := B2'
         have kB2 : (w.heap.size + 1 + 1) < w5.heap.size := B2.lt
         obtain ⟨B20, B21, B22, B23, B24⟩ := B2.five.1
         clear B0' B1' B2'
         clear hb)
      | (go_at_call 35; with_reducible refine (C2.out _).mono ?_; rintro e w6 ⟨rfl, hb⟩
         have B0' := B0.below hb B0.lt
         have B1' := B1.below hb B1.lt
         have B2' := B2.below hb B2.lt
         have hw6 : Below w.heap.size w w6 := hw5.trans (hb.mono hw5.size)
         clear B0 B1 B2 kB0 B00 B01 B02 B03 B04 kB1 B10 B11 B12 B13 B14 kB2 B20 B21 B22 B23 B24
         have B0 := B0'
         have kB0 : w.heap.size < w6.heap.size := B0.lt
         obtain ⟨B00, B01, B02, B03, B04⟩ := B0.five.1
         have B1 := B1'
         have kB1 : (w.heap.size + 1) < w6.heap.size := B1.lt
         obtain ⟨B10, B11, B12, B13, B14⟩ := B1.five.1
         have B2 := B2'
         have kB2 : (w.heap.size + 1 + 1) < w6.heap.size := B2.lt
         obtain ⟨B20, B21, B22, B23, B24⟩ := B2.five.1
         clear B0' B1' B2'
         clear hb)
      | (go_at_call 35; with_reducible refine (C3.out _).mono ?_; rintro e w7 ⟨rfl, hb⟩
         have B0' := B0.below hb B0.lt
         have B1' := B1.below hb B1.lt
         have B2' := B2.below hb B2.lt
         have hw7 : Below w.heap.size w w7 := hw6.trans (hb.mono hw6.size)
         clear B0 B1 B2 kB0 B00 B01 B02 B03 B04 kB1 B10 B11 B12 B13 B14 kB2 B20 B21 B22 B23 B24
         have B0 := B0'
         have kB0 : w.heap.size < w7.heap.size := B0.lt
         obtain ⟨B00, B01, B02, B03, B04⟩ := B0.five.1
         have B1 := B1'
         have kB1 : (w.heap.size + 1) < w7.heap.size := B1.lt
         obtain ⟨B10, B11, B12, B13, B14⟩ := B1.five.1
         have B2 := B2'
         have kB2 : (w.heap.size + 1 + 1) < w7.heap.size := B2.lt
         obtain ⟨B20, B21, B22, B23, B24⟩ := B2.five.1
         clear B0' B1' B2'
         clear hb)
      | (go_at_call 35; with_reducible refine (C4.out _).mono ?_; rintro e w8 ⟨rfl, hb⟩
         have B0' := B0.below hb B0.lt
         have B1' := B1.below hb B1.lt
         have B2' := B2.below hb B2.lt
         have hw8 : Below w.heap.size w w8 := hw7.trans (hb.mono hw7.size)
         clear B0 B1 B2 kB0 B00 B01 B02 B03 B04 kB1 B10 B11 B12 B13 B14 kB2 B20 B21 B22 B23 B24
         have B0 := B0'
         have kB0 : w.heap.size < w8.heap.size := B0.lt
         obtain ⟨B00, B01, B02, B03, B04⟩ := B0.five.1
         have B1 := B1'
         have kB1 : (w.heap.size + 1) < w8.heap.size := B1.lt
         obtain ⟨B10, B11, B12, B13, B14⟩ := B1.five.1
         have B2 := B2'
         have kB2 : (w.heap.size + 1 + 1) < w8.heap.size := B2.lt
         obtain ⟨B20, B21, B22, B23, B24⟩ := B2.five.1
         clear B0' B1' B2'
         clear hb)
      | (go_at_call 35; with_reducible refine (C5.out _).mono ?_; rintro e w9 ⟨rfl, hb⟩
         have B0' := B0.below hb B0.lt
         have B1' := B1.below hb B1.lt
         have B2' := B2.below hb B2.lt
         have hw9 : Below w.heap.size w w9 := hw8.trans (hb.mono hw8.size)
         clear B0 B1 B2 kB0 B00 B01 B02 B03 B04 kB1 B10 B11 B12 B13 B14 kB2 B20 B21 B22 B23 B24
         have B0 := B0'
         have kB0 : w.heap.size < w9.heap.size := B0.lt
         obtain ⟨B00, B01, B02, B03, B04⟩ := B0.five.1
         have B1 := B1'
         have kB1 : (w.heap.size + 1) < w9.heap.size := B1.lt
         obtain ⟨B10, B11, B12, B13, B14⟩ := B1.five.1
         have B2 := B2'
         have kB2 : (w.heap.size + 1 + 1) < w9.heap.size := B2.lt
         obtain ⟨B20, B21, B22, B23, B24⟩ := B2.five.1
         clear B0' B1' B2'
         clear hb))
          refine bodyPost_ret (v := .bool true) (by simp [results, Tryz.results9, go_sem]) rfl ⟨rfl, ?_⟩
          first | exact hw9 | go_grown
      · have d3 := q4 rfl
        subst d3
        clear q3 q4 q5
        rcases z3 with rfl | rfl | rfl
        all_goals
          go_enter Tryz.func9, Tryz.ntmps9
          go_wp2_with (first
      | (go_at_call 29; with_reducible refine (CA.out _ (by go_grown)).mono ?_; rintro e w1 ⟨rfl, hb⟩
         have B0' : Blk w1 w.heap.size #[.int .i64 k, .int .i64 n, .int .i64 s, .string t, .bool b] 24 := (((Blk.here rfl (by simp)).alloc _).alloc _).below hb (by simp <;> omega)
         have B1' : Blk w1 (w.heap.size + 1) #[.int .i64 k2, .int .i64 n2, .int .i64 s2, .string t2, .bool b2] 24 := ((Blk.here rfl (by simp)).alloc _).below hb (by simp <;> omega)
         have B2' : Blk w1 (w.heap.size + 1 + 1) #[.int .i64 k3, .int .i64 n3, .int .i64 s3, .string t3, .bool b3] 24 := (Blk.here rfl (by simp)).below hb (by simp <;> omega)
         have hw1 : Below w.heap.size w w1 := Below.trans (by go_grown) (hb.mono (by simp <;> omega))
         have B0 := B0'
         have kB0 : w.heap.size < w1.heap.size := B0.lt
         obtain ⟨B00, B01, B02, B03, B04⟩ := B0.five.1
         have B1 := B1'
         have kB1 : (w.heap.size + 1) < w1.heap.size := B1.lt
         obtain ⟨B10, B11, B12, B13, B14⟩ := B1.five.1
         have B2 := B2'
         have kB2 : (w.heap.size + 1 + 1) < w1.heap.size := B2.lt
         obtain ⟨B20, B21, B22, B23, B24⟩ := B2.five.1
         clear B0' B1' B2'
         clear hb)
      | (go_at_call 13; with_reducible refine (RA.out _).mono ?_; rintro e w2 ⟨rfl, hb⟩
         have B0' := B0.below hb B0.lt
         have B1' := B1.below hb B1.lt
         have B2' := B2.below hb B2.lt
         have hw2 : Below w.heap.size w w2 := hw1.trans (hb.mono hw1.size)
         clear B0 B1 B2 kB0 B00 B01 B02 B03 B04 kB1 B10 B11 B12 B13 B14 kB2 B20 B21 B22 B23 B24
         have B0 := B0'
         have kB0 : w.heap.size < w2.heap.size := B0.lt
         obtain ⟨B00, B01, B02, B03, B04⟩ := B0.five.1
         have B1 := B1'
         have kB1 : (w.heap.size + 1) < w2.heap.size := B1.lt
         obtain ⟨B10, B11, B12, B13, B14⟩ := B1.five.1
         have B2 := B2'
         have kB2 : (w.heap.size + 1 + 1) < w2.heap.size := B2.lt
         obtain ⟨B20, B21, B22, B23, B24⟩ := B2.five.1
         clear B0' B1' B2'
         clear hb)
      | (go_at_call 13; with_reducible refine (RB.out _).mono ?_; rintro e w3 ⟨rfl, hb⟩
         have B0' := B0.below hb B0.lt
         have B1' := B1.below hb B1.lt
         have B2' := B2.below hb B2.lt
         have hw3 : Below w.heap.size w w3 := hw2.trans (hb.mono hw2.size)
         clear B0 B1 B2 kB0 B00 B01 B02 B03 B04 kB1 B10 B11 B12 B13 B14 kB2 B20 B21 B22 B23 B24
         have B0 := B0'
         have kB0 : w.heap.size < w3.heap.size := B0.lt
         obtain ⟨B00, B01, B02, B03, B04⟩ := B0.five.1
         have B1 := B1'
         have kB1 : (w.heap.size + 1) < w3.heap.size := B1.lt
         obtain ⟨B10, B11, B12, B13, B14⟩ := B1.five.1
         have B2 := B2'
         have kB2 : (w.heap.size + 1 + 1) < w3.heap.size := B2.lt
         obtain ⟨B20, B21, B22, B23, B24⟩ := B2.five.1
         clear B0' B1' B2'
         clear hb)
      | (go_at_call 13; with_reducible refine (RC.out _).mono ?_; rintro e w4 ⟨rfl, hb⟩
         have B0' := B0.below hb B0.lt
         have B1' := B1.below hb B1.lt
         have B2' := B2.below hb B2.lt
         have hw4 : Below w.heap.size w w4 := hw3.trans (hb.mono hw3.size)
         clear B0 B1 B2 kB0 B00 B01 B02 B03 B04 kB1 B10 B11 B12 B13 B14 kB2 B20 B21 B22 B23 B24
         have B0 := B0'
         have kB0 : w.heap.size < w4.heap.size := B0.lt
         obtain ⟨B00, B01, B02, B03, B04⟩ := B0.five.1
         have B1 := B1'
         have kB1 : (w.heap.size + 1) < w4.heap.size := B1.lt
         obtain ⟨B10, B11, B12, B13, B14⟩ := B1.five.1
         have B2 := B2'
         have kB2 : (w.heap.size + 1 + 1) < w4.heap.size := B2.lt
         obtain ⟨B20, B21, B22, B23, B24⟩ := B2.five.1
         clear B0' B1' B2'
         clear hb)
      | (go_at_call 35; with_reducible refine (C1.out _).mono ?_; rintro e w5 ⟨rfl, hb⟩
         have B0' := B0.below hb B0.lt
         have B1' := B1.below hb B1.lt
         have B2' := B2.below hb B2.lt
         have hw5 : Below w.heap.size w w5 := hw4.trans (hb.mono hw4.size)
         clear B0 B1 B2 kB0 B00 B01 B02 B03 B04 kB1 B10 B11 B12 B13 B14 kB2 B20 B21 B22 B23 B24
         have B0 := B0'
         have kB0 : w.heap.size < w5.heap.size := B0.lt
         obtain ⟨B00, B01, B02, B03, B04⟩ := B0.five.1
         have B1 := B1'
         have kB1 : (w.heap.size + 1) < w5.heap.size := B1.lt
         obtain ⟨B10, B11, B12, B13, B14⟩ := B1.five.1
         have B2 := B2'
         have kB2 : (w.heap.size + 1 + 1) < w5.heap.size := B2.lt
         obtain ⟨B20, B21, B22, B23, B24⟩ := B2.five.1
         clear B0' B1' B2'
         clear hb)
      | (go_at_call 35; with_reducible refine (C2.out _).mono ?_; rintro e w6 ⟨rfl, hb⟩
         have B0' := B0.below hb B0.lt
         have B1' := B1.below hb B1.lt
         have B2' := B2.below hb B2.lt
         have hw6 : Below w.heap.size w w6 := hw5.trans (hb.mono hw5.size)
         clear B0 B1 B2 kB0 B00 B01 B02 B03 B04 kB1 B10 B11 B12 B13 B14 kB2 B20 B21 B22 B23 B24
         have B0 := B0'
         have kB0 : w.heap.size < w6.heap.size := B0.lt
         obtain ⟨B00, B01, B02, B03, B04⟩ := B0.five.1
         have B1 := B1'
         have kB1 : (w.heap.size + 1) < w6.heap.size := B1.lt
         obtain ⟨B10, B11, B12, B13, B14⟩ := B1.five.1
         have B2 := B2'
         have kB2 : (w.heap.size + 1 + 1) < w6.heap.size := B2.lt
         obtain ⟨B20, B21, B22, B23, B24⟩ := B2.five.1
         clear B0' B1' B2'
         clear hb)
      | (go_at_call 35; with_reducible refine (C3.out _).mono ?_; rintro e w7 ⟨rfl, hb⟩
         have B0' := B0.below hb B0.lt
         have B1' := B1.below hb B1.lt
         have B2' := B2.below hb B2.lt
         have hw7 : Below w.heap.size w w7 := hw6.trans (hb.mono hw6.size)
         clear B0 B1 B2 kB0 B00 B01 B02 B03 B04 kB1 B10 B11 B12 B13 B14 kB2 B20 B21 B22 B23 B24
         have B0 := B0'
         have kB0 : w.heap.size < w7.heap.size := B0.lt
         obtain ⟨B00, B01, B02, B03, B04⟩ := B0.five.1
         have B1 := B1'
         have kB1 : (w.heap.size + 1) < w7.heap.size := B1.lt
         obtain ⟨B10, B11, B12, B13, B14⟩ := B1.five.1
         have B2 := B2'
         have kB2 : (w.heap.size + 1 + 1) < w7.heap.size := B2.lt
         obtain ⟨B20, B21, B22, B23, B24⟩ := B2.five.1
         clear B0' B1' B2'
         clear hb)
      | (go_at_call 35; with_reducible refine (C4.out _).mono ?_; rintro e w8 ⟨rfl, hb⟩
         have B0' := B0.below hb B0.lt
         have B1' := B1.below hb B1.lt
         have B2' := B2.below hb B2.lt
         have hw8 : Below w.heap.size w w8 := hw7.trans (hb.mono hw7.size)
         clear B0 B1 B2 kB0 B00 B01 B02 B03 B04 kB1 B10 B11 B12 B13 B14 kB2 B20 B21 B22 B23 B24
         have B0 := B0'
         have kB0 : w.heap.size < w8.heap.size := B0.lt
         obtain ⟨B00, B01, B02, B03, B04⟩ := B0.five.1
         have B1 := B1'
         have kB1 : (w.heap.size + 1) < w8.heap.size := B1.lt
         obtain ⟨B10, B11, B12, B13, B14⟩ := B1.five.1
         have B2 := B2'
         have kB2 : (w.heap.size + 1 + 1) < w8.heap.size := B2.lt
         obtain ⟨B20, B21, B22, B23, B24⟩ := B2.five.1
         clear B0' B1' B2'
         clear hb)
      | (go_at_call 35; with_reducible refine (C5.out _).mono ?_; rintro e w9 ⟨rfl, hb⟩
         have B0' := B0.below hb B0.lt
         have B1' := B1.below hb B1.lt
         have B2' := B2.below hb B2.lt
         have hw9 : Below w.heap.size w w9 := hw8.trans (hb.mono hw8.size)
         clear B0 B1 B2 kB0 B00 B01 B02 B03 B04 kB1 B10 B11 B12 B13 B14 kB2 B20 B21 B22 B23 B24
         have B0 := B0'
         have kB0 : w.heap.size < w9.heap.size := B0.lt
         obtain ⟨B00, B01, B02, B03, B04⟩ := B0.five.1
         have B1 := B1'
         have kB1 : (w.heap.size + 1) < w9.heap.size := B1.lt
         obtain ⟨B10, B11, B12, B13, B14⟩ := B1.five.1
         have B2 := B2'
         have kB2 : (w.heap.size + 1 + 1) < w9.heap.size := B2.lt
         obtain ⟨B20, B21, B22, B23, B24⟩ := B2.five.1
         clear B0' B1' B2'
         clear hb))
          refine bodyPost_ret (v := .bool true) (by simp [results, Tryz.results9, go_sem]) rfl ⟨rfl, ?_⟩
          first | exact hw9 | go_grown
      · clear q3 q4 q5
        rcases z3 with rfl | rfl | rfl
        all_goals
          go_enter Tryz.func9, Tryz.ntmps9
          go_wp2_with (first
      | (go_at_call 29; with_reducible refine (CA.out _ (by go_grown)).mono ?_; rintro e w1 ⟨rfl, hb⟩
         have B0' : Blk w1 w.heap.size #[.int .i64 k, .int .i64 n, .int .i64 s, .string t, .bool b] 24 := (((Blk.here rfl (by simp)).alloc _).alloc _).below hb (by simp <;> omega)
         have B1' : Blk w1 (w.heap.size + 1) #[.int .i64 k2, .int .i64 n2, .int .i64 s2, .string t2, .bool b2] 24 := ((Blk.here rfl (by simp)).alloc _).below hb (by simp <;> omega)
         have B2' : Blk w1 (w.heap.size + 1 + 1) #[.int .i64 k3, .int .i64 n3, .int .i64 s3, .string t3, .bool b3] 24 := (Blk.here rfl (by simp)).below hb (by simp <;> omega)
         have hw1 : Below w.heap.size w w1 := Below.trans (by go_grown) (hb.mono (by simp <;> omega))
         have B0 := B0'
         have kB0 : w.heap.size < w1.heap.size := B0.lt
         obtain ⟨B00, B01, B02, B03, B04⟩ := B0.five.1
         have B1 := B1'
         have kB1 : (w.heap.size + 1) < w1.heap.size := B1.lt
         obtain ⟨B10, B11, B12, B13, B14⟩ := B1.five.1
         have B2 := B2'
         have kB2 : (w.heap.size + 1 + 1) < w1.heap.size := B2.lt
         obtain ⟨B20, B21, B22, B23, B24⟩ := B2.five.1
         clear B0' B1' B2'
         clear hb)
      | (go_at_call 13; with_reducible refine (RA.out _).mono ?_; rintro e w2 ⟨rfl, hb⟩
         have B0' := B0.below hb B0.lt
         have B1' := B1.below hb B1.lt
         have B2' := B2.below hb B2.lt
         have hw2 : Below w.heap.size w w2 := hw1.trans (hb.mono hw1.size)
         clear B0 B1 B2 kB0 B00 B01 B02 B03 B04 kB1 B10 B11 B12 B13 B14 kB2 B20 B21 B22 B23 B24
         have B0 := B0'
         have kB0 : w.heap.size < w2.heap.size := B0.lt
         obtain ⟨B00, B01, B02, B03, B04⟩ := B0.five.1
         have B1 := B1'
         have kB1 : (w.heap.size + 1) < w2.heap.size := B1.lt
         obtain ⟨B10, B11, B12, B13, B14⟩ := B1.five.1
         have B2 := B2'
         have kB2 : (w.heap.size + 1 + 1) < w2.heap.size := B2.lt
         obtain ⟨B20, B21, B22, B23, B24⟩ := B2.five.1
         clear B0' B1' B2'
         clear hb)
      | (go_at_call 13; with_reducible refine (RB.out _).mono ?_; rintro e w3 ⟨rfl, hb⟩
         have B0' := B0.below hb B0.lt
         have B1' := B1.below hb B1.lt
         have B2' := B2.below hb B2.lt
         have hw3 : Below w.heap.size w w3 := hw2.trans (hb.mono hw2.size)
         clear B0 B1 B2 kB0 B00 B01 B02 B03 B04 kB1 B10 B11 B12 B13 B14 kB2 B20 B21 B22 B23 B24
         have B0 := B0'
         have kB0 : w.heap.size < w3.heap.size := B0.lt
         obtain ⟨B00, B01, B02, B03, B04⟩ := B0.five.1
         have B1 := B1'
         have kB1 : (w.heap.size + 1) < w3.heap.size := B1.lt
         obtain ⟨B10, B11, B12, B13, B14⟩ := B1.five.1
         have B2 := B2'
         have kB2 : (w.heap.size + 1 + 1) < w3.heap.size := B2.lt
         obtain ⟨B20, B21, B22, B23, B24⟩ := B2.five.1
         clear B0' B1' B2'
         clear hb)
      | (go_at_call 13; with_reducible refine (RC.out _).mono ?_; rintro e w4 ⟨rfl, hb⟩
         have B0' := B0.below hb B0.lt
         have B1' := B1.below hb B1.lt
         have B2' := B2.below hb B2.lt
         have hw4 : Below w.heap.size w w4 := hw3.trans (hb.mono hw3.size)
         clear B0 B1 B2 kB0 B00 B01 B02 B03 B04 kB1 B10 B11 B12 B13 B14 kB2 B20 B21 B22 B23 B24
         have B0 := B0'
         have kB0 : w.heap.size < w4.heap.size := B0.lt
         obtain ⟨B00, B01, B02, B03, B04⟩ := B0.five.1
         have B1 := B1'
         have kB1 : (w.heap.size + 1) < w4.heap.size := B1.lt
         obtain ⟨B10, B11, B12, B13, B14⟩ := B1.five.1
         have B2 := B2'
         have kB2 : (w.heap.size + 1 + 1) < w4.heap.size := B2.lt
         obtain ⟨B20, B21, B22, B23, B24⟩ := B2.five.1
         clear B0' B1' B2'
         clear hb)
      | (go_at_call 35; with_reducible refine (C1.out _).mono ?_; rintro e w5 ⟨rfl, hb⟩
         have B0' := B0.below hb B0.lt
         have B1' := B1.below hb B1.lt
         have B2' := B2.below hb B2.lt
         have hw5 : Below w.heap.size w w5 := hw4.trans (hb.mono hw4.size)
         clear B0 B1 B2 kB0 B00 B01 B02 B03 B04 kB1 B10 B11 B12 B13 B14 kB2 B20 B21 B22 B23 B24
         have B0 := B0'
         have kB0 : w.heap.size < w5.heap.size := B0.lt
         obtain ⟨B00, B01, B02, B03, B04⟩ := B0.five.1
         have B1 := B1'
         have kB1 : (w.heap.size + 1) < w5.heap.size := B1.lt
         obtain ⟨B10, B11, B12, B13, B14⟩ := B1.five.1
         have B2 := B2'
         have kB2 : (w.heap.size + 1 + 1) < w5.heap.size := B2.lt
         obtain ⟨B20, B21, B22, B23, B24⟩ := B2.five.1
         clear B0' B1' B2'
         clear hb)
      | (go_at_call 35; with_reducible refine (C2.out _).mono ?_; rintro e w6 ⟨rfl, hb⟩
         have B0' := B0.below hb B0.lt
         have B1' := B1.below hb B1.lt
         have B2' := B2.below hb B2.lt
         have hw6 : Below w.heap.size w w6 := hw5.trans (hb.mono hw5.size)
         clear B0 B1 B2 kB0 B00 B01 B02 B03 B04 kB1 B10 B11 B12 B13 B14 kB2 B20 B21 B22 B23 B24
         have B0 := B0'
         have kB0 : w.heap.size < w6.heap.size := B0.lt
         obtain ⟨B00, B01, B02, B03, B04⟩ := B0.five.1
         have B1 := B1'
         have kB1 : (w.heap.size + 1) < w6.heap.size := B1.lt
         obtain ⟨B10, B11, B12, B13, B14⟩ := B1.five.1
         have B2 := B2'
         have kB2 : (w.heap.size + 1 + 1) < w6.heap.size := B2.lt
         obtain ⟨B20, B21, B22, B23, B24⟩ := B2.five.1
         clear B0' B1' B2'
         clear hb)
      | (go_at_call 35; with_reducible refine (C3.out _).mono ?_; rintro e w7 ⟨rfl, hb⟩
         have B0' := B0.below hb B0.lt
         have B1' := B1.below hb B1.lt
         have B2' := B2.below hb B2.lt
         have hw7 : Below w.heap.size w w7 := hw6.trans (hb.mono hw6.size)
         clear B0 B1 B2 kB0 B00 B01 B02 B03 B04 kB1 B10 B11 B12 B13 B14 kB2 B20 B21 B22 B23 B24
         have B0 := B0'
         have kB0 : w.heap.size < w7.heap.size := B0.lt
         obtain ⟨B00, B01, B02, B03, B04⟩ := B0.five.1
         have B1 := B1'
         have kB1 : (w.heap.size + 1) < w7.heap.size := B1.lt
         obtain ⟨B10, B11, B12, B13, B14⟩ := B1.five.1
         have B2 := B2'
         have kB2 : (w.heap.size + 1 + 1) < w7.heap.size := B2.lt
         obtain ⟨B20, B21, B22, B23, B24⟩ := B2.five.1
         clear B0' B1' B2'
         clear hb)
      | (go_at_call 35; with_reducible refine (C4.out _).mono ?_; rintro e w8 ⟨rfl, hb⟩
         have B0' := B0.below hb B0.lt
         have B1' := B1.below hb B1.lt
         have B2' := B2.below hb B2.lt
         have hw8 : Below w.heap.size w w8 := hw7.trans (hb.mono hw7.size)
         clear B0 B1 B2 kB0 B00 B01 B02 B03 B04 kB1 B10 B11 B12 B13 B14 kB2 B20 B21 B22 B23 B24
         have B0 := B0'
         have kB0 : w.heap.size < w8.heap.size := B0.lt
         obtain ⟨B00, B01, B02, B03, B04⟩ := B0.five.1
         have B1 := B1'
         have kB1 : (w.heap.size + 1) < w8.heap.size := B1.lt
         obtain ⟨B10, B11, B12, B13, B14⟩ := B1.five.1
         have B2 := B2'
         have kB2 : (w.heap.size + 1 + 1) < w8.heap.size := B2.lt
         obtain ⟨B20, B21, B22, B23, B24⟩ := B2.five.1
         clear B0' B1' B2'
         clear hb)
      | (go_at_call 35; with_reducible refine (C5.out _).mono ?_; rintro e w9 ⟨rfl, hb⟩
         have B0' := B0.below hb B0.lt
         have B1' := B1.below hb B1.lt
         have B2' := B2.below hb B2.lt
         have hw9 : Below w.heap.size w w9 := hw8.trans (hb.mono hw8.size)
         clear B0 B1 B2 kB0 B00 B01 B02 B03 B04 kB1 B10 B11 B12 B13 B14 kB2 B20 B21 B22 B23 B24
         have B0 := B0'
         have kB0 : w.heap.size < w9.heap.size := B0.lt
         obtain ⟨B00, B01, B02, B03, B04⟩ := B0.five.1
         have B1 := B1'
         have kB1 : (w.heap.size + 1) < w9.heap.size := B1.lt
         obtain ⟨B10, B11, B12, B13, B14⟩ := B1.five.1
         have B2 := B2'
         have kB2 : (w.heap.size + 1 + 1) < w9.heap.size := B2.lt
         obtain ⟨B20, B21, B22, B23, B24⟩ := B2.five.1
         clear B0' B1' B2'
         clear hb))
          refine bodyPost_ret (v := .bool true) (by simp [results, Tryz.results9, go_sem]) rfl ⟨rfl, ?_⟩
          first | exact hw9 | go_grown
    · have g1 : (g == 0) = false := by simpa using g0
      have g2 : (g != 0) = true := by unfold bne; rw [g1]; rfl
      clear q1 q2 q3 q4 q5 x3 z3
      go_enter Tryz.func9, Tryz.ntmps9
      go_wp2_with (first
      | (go_at_call 29; with_reducible refine (CA.out _ (by go_grown)).mono ?_; rintro e w1 ⟨rfl, hb⟩
         have B0' : Blk w1 w.heap.size #[.int .i64 k, .int .i64 n, .int .i64 s, .string t, .bool b] 24 := (((Blk.here rfl (by simp)).alloc _).alloc _).below hb (by simp <;> omega)
         have B1' : Blk w1 (w.heap.size + 1) #[.int .i64 k2, .int .i64 n2, .int .i64 s2, .string t2, .bool b2] 24 := ((Blk.here rfl (by simp)).alloc _).below hb (by simp <;> omega)
         have B2' : Blk w1 (w.heap.size + 1 + 1) #[.int .i64 k3, .int .i64 n3, .int .i64 s3, .string t3, .bool b3] 24 := (Blk.here rfl (by simp)).below hb (by simp <;> omega)
         have hw1 : Below w.heap.size w w1 := Below.trans (by go_grown) (hb.mono (by simp <;> omega))
         have B0 := B0'
         have kB0 : w.heap.size < w1.heap.size := B0.lt
         obtain ⟨B00, B01, B02, B03, B04⟩ := B0.five.1
         have B1 := B1'
         have kB1 : (w.heap.size + 1) < w1.heap.size := B1.lt
         obtain ⟨B10, B11, B12, B13, B14⟩ := B1.five.1
         have B2 := B2'
         have kB2 : (w.heap.size + 1 + 1) < w1.heap.size := B2.lt
         obtain ⟨B20, B21, B22, B23, B24⟩ := B2.five.1
         clear B0' B1' B2'
         clear hb)
      | (go_at_call 13; with_reducible refine (RA.out _).mono ?_; rintro e w2 ⟨rfl, hb⟩
         have B0' := B0.below hb B0.lt
         have B1' := B1.below hb B1.lt
         have B2' := B2.below hb B2.lt
         have hw2 : Below w.heap.size w w2 := hw1.trans (hb.mono hw1.size)
         clear B0 B1 B2 kB0 B00 B01 B02 B03 B04 kB1 B10 B11 B12 B13 B14 kB2 B20 B21 B22 B23 B24
         have B0 := B0'
         have kB0 : w.heap.size < w2.heap.size := B0.lt
         obtain ⟨B00, B01, B02, B03, B04⟩ := B0.five.1
         have B1 := B1'
         have kB1 : (w.heap.size + 1) < w2.heap.size := B1.lt
         obtain ⟨B10, B11, B12, B13, B14⟩ := B1.five.1
         have B2 := B2'
         have kB2 : (w.heap.size + 1 + 1) < w2.heap.size := B2.lt
         obtain ⟨B20, B21, B22, B23, B24⟩ := B2.five.1
         clear B0' B1' B2'
         clear hb)
      | (go_at_call 13; with_reducible refine (RB.out _).mono ?_; rintro e w3 ⟨rfl, hb⟩
         have B0' := B0.below hb B0.lt
         have B1' := B1.below hb B1.lt
         have B2' := B2.below hb B2.lt
         have hw3 : Below w.heap.size w w3 := hw2.trans (hb.mono hw2.size)
         clear B0 B1 B2 kB0 B00 B01 B02 B03 B04 kB1 B10 B11 B12 B13 B14 kB2 B20 B21 B22 B23 B24
         have B0 := B0'
         have kB0 : w.heap.size < w3.heap.size := B0.lt
         obtain ⟨B00, B01, B02, B03, B04⟩ := B0.five.1
         have B1 := B1'
         have kB1 : (w.heap.size + 1) < w3.heap.size := B1.lt
         obtain ⟨B10, B11, B12, B13, B14⟩ := B1.five.1
         have B2 := B2'
         have kB2 : (w.heap.size + 1 + 1) < w3.heap.size := B2.lt
         obtain ⟨B20, B21, B22, B23, B24⟩ := B2.five.1
         clear B0' B1' B2'
         clear hb)
      | (go_at_call 13; with_reducible refine (RC.out _).mono ?_; rintro e w4 ⟨rfl, hb⟩
         have B0' := B0.below hb B0.lt
         have B1' := B1.below hb B1.lt
         have B2' := B2.below hb B2.lt
         have hw4 : Below w.heap.size w w4 := hw3.trans (hb.mono hw3.size)
         clear B0 B1 B2 kB0 B00 B01 B02 B03 B04 kB1 B10 B11 B12 B13 B14 kB2 B20 B21 B22 B23 B24
         have B0 := B0'
         have kB0 : w.heap.size < w4.heap.size := B0.lt
         obtain ⟨B00, B01, B02, B03, B04⟩ := B0.five.1
         have B1 := B1'
         have kB1 : (w.heap.size + 1) < w4.heap.size := B1.lt
         obtain ⟨B10, B11, B12, B13, B14⟩ := B1.five.1
         have B2 := B2'
         have kB2 : (w.heap.size + 1 + 1) < w4.heap.size := B2.lt
         obtain ⟨B20, B21, B22, B23, B24⟩ := B2.five.1
         clear B0' B1' B2'
         clear hb)
      | (go_at_call 35; with_reducible refine (C1.out _).mono ?_; rintro e w5 ⟨rfl, hb⟩
         have B0' := B0.below hb B0.lt
         have B1' := B1.below hb B1.lt
         have B2' := B2.below hb B2.lt
         have hw5 : Below w.heap.size w w5 := hw4.trans (hb.mono hw4.size)
         clear B0 B1 B2 kB0 B00 B01 B02 B03 B04 kB1 B10 B11 B12 B13 B14 kB2 B20 B21 B22 B23 B24
         have B0 := B0'
         have kB0 : w.heap.size < w5.heap.size := B0.lt
         obtain ⟨B00, B01, B02, B03, B04⟩ := B0.five.1
         have B1 := B1'
         have kB1 : (w.heap.size + 1) < w5.heap.size := B1.lt
         obtain ⟨B10, B11, B12, B13, B14⟩ := B1.five.1
         have B2 := B2'
         have kB2 : (w.heap.size + 1 + 1) < w5.heap.size := B2.lt
         obtain ⟨B20, B21, B22, B23, B24⟩ := B2.five.1
         clear B0' B1' B2'
         clear hb)
      | (go_at_call 35; with_reducible refine (C2.out _).mono ?_; rintro e w6 ⟨rfl, hb⟩
         have B0' := B0.below hb B0.lt
         have B1' := B1.below hb B1.lt
         have B2' := B2.below hb B2.lt
         have hw6 : Below w.heap.size w w6 := hw5.trans (hb.mono hw5.size)
         clear B0 B1 B2 kB0 B00 B01 B02 B03 B04 kB1 B10 B11 B12 B13 B14 kB2 B20 B21 B22 B23 B24
         have B0 := B0'
         have kB0 : w.heap.size < w6.heap.size := B0.lt
         obtain ⟨B00, B01, B02, B03, B04⟩ := B0.five.1
         have B1 := B1'
         have kB1 : (w.heap.size + 1) < w6.heap.size := B1.lt
         obtain ⟨B10, B11, B12, B13, B14⟩ := B1.five.1
         have B2 := B2'
         have kB2 : (w.heap.size + 1 + 1) < w6.heap.size := B2.lt
         obtain ⟨B20, B21, B22, B23, B24⟩ := B2.five.1
         clear B0' B1' B2'
         clear hb)
      | (go_at_call 35; with_reducible refine (C3.out _).mono ?_; rintro e w7 ⟨rfl, hb⟩
         have B0' := B0.below hb B0.lt
         have B1' := B1.below hb B1.lt
         have B2' := B2.below hb B2.lt
         have hw7 : Below w.heap.size w w7 := hw6.trans (hb.mono hw6.size)
         clear B0 B1 B2 kB0 B00 B01 B02 B03 B04 kB1 B10 B11 B12 B13 B14 kB2 B20 B21 B22 B23 B24
         have B0 := B0'
         have kB0 : w.heap.size < w7.heap.size := B0.lt
         obtain ⟨B00, B01, B02, B03, B04⟩ := B0.five.1
         have B1 := B1'
         have kB1 : (w.heap.size + 1) < w7.heap.size := B1.lt
         obtain ⟨B10, B11, B12, B13, B14⟩ := B1.five.1
         have B2 := B2'
         have kB2 : (w.heap.size + 1 + 1) < w7.heap.size := B2.lt
         obtain ⟨B20, B21, B22, B23, B24⟩ := B2.five.1
         clear B0' B1' B2'
         clear hb)
      | (go_at_call 35; with_reducible refine (C4.out _).mono ?_; rintro e w8 ⟨rfl, hb⟩
         have B0' := B0.below hb B0.lt
         have B1' := B1.below hb B1.lt
         have B2' := B2.below hb B2.lt
         have hw8 : Below w.heap.size w w8 := hw7.trans (hb.mono hw7.size)
         clear B0 B1 B2 kB0 B00 B01 B02 B03 B04 kB1 B10 B11 B12 B13 B14 kB2 B20 B21 B22 B23 B24
         have B0 := B0'
         have kB0 : w.heap.size < w8.heap.size := B0.lt
         obtain ⟨B00, B01, B02, B03, B04⟩ := B0.five.1
         have B1 := B1'
         have kB1 : (w.heap.size + 1) < w8.heap.size := B1.lt
         obtain ⟨B10, B11, B12, B13, B14⟩ := B1.five.1
         have B2 := B2'
         have kB2 : (w.heap.size + 1 + 1) < w8.heap.size := B2.lt
         obtain ⟨B20, B21, B22, B23, B24⟩ := B2.five.1
         clear B0' B1' B2'
         clear hb)
      | (go_at_call 35; with_reducible refine (C5.out _).mono ?_; rintro e w9 ⟨rfl, hb⟩
         have B0' := B0.below hb B0.lt
         have B1' := B1.below hb B1.lt
         have B2' := B2.below hb B2.lt
         have hw9 : Below w.heap.size w w9 := hw8.trans (hb.mono hw8.size)
         clear B0 B1 B2 kB0 B00 B01 B02 B03 B04 kB1 B10 B11 B12 B13 B14 kB2 B20 B21 B22 B23 B24
         have B0 := B0'
         have kB0 : w.heap.size < w9.heap.size := B0.lt
         obtain ⟨B00, B01, B02, B03, B04⟩ := B0.five.1
         have B1 := B1'
         have kB1 : (w.heap.size + 1) < w9.heap.size := B1.lt
         obtain ⟨B10, B11, B12, B13, B14⟩ := B1.five.1
         have B2 := B2'
         have kB2 : (w.heap.size + 1 + 1) < w9.heap.size := B2.lt
         obtain ⟨B20, B21, B22, B23, B24⟩ := B2.five.1
         clear B0' B1' B2'
         clear hb))
      refine bodyPost_ret (v := .bool true) (by simp [results, Tryz.results9, go_sem]) rfl ⟨rfl, ?_⟩
      first | exact hw9 | go_grown
  · have e1 : (er == 0) = false := by simpa using e0
    have e2 : (er != 0) = true := by unfold bne; rw [e1]; rfl
    by_cases g0 : g = 0
    · have h0 := q1 e0 g0
      have h1 : (h == 0) = false := by simpa using h0
      have h2 : (h != 0) = true := by unfold bne; rw [h1]; rfl
      subst g0
      clear q1 q2 q3 q4 q5 x3 z3
      go_enter Tryz.func9, Tryz.ntmps9
      go_wp2_with (first
      | (go_at_call 29; with_reducible refine (CA.out _ (by go_grown)).mono ?_; rintro e w1 ⟨rfl, hb⟩
         have B0' : Blk w1 w.heap.size #[.int .i64 k, .int .i64 n, .int .i64 s, .string t, .bool b] 24 := (((Blk.here rfl (by simp)).alloc _).alloc _).below hb (by simp <;> omega)
         have B1' : Blk w1 (w.heap.size + 1) #[.int .i64 k2, .int .i64 n2, .int .i64 s2, .string t2, .bool b2] 24 := ((Blk.here rfl (by simp)).alloc _).below hb (by simp <;> omega)
         have B2' : Blk w1 (w.heap.size + 1 + 1) #[.int .i64 k3, .int .i64 n3, .int .i64 s3, .string t3, .bool b3] 24 := (Blk.here rfl (by simp)).below hb (by simp <;> omega)
         have hw1 : Below w.heap.size w w1 := Below.trans (by go_grown) (hb.mono (by simp <;> omega))
         have B0 := B0'
         have kB0 : w.heap.size < w1.heap.size := B0.lt
         obtain ⟨B00, B01, B02, B03, B04⟩ := B0.five.1
         have B1 := B1'
         have kB1 : (w.heap.size + 1) < w1.heap.size := B1.lt
         obtain ⟨B10, B11, B12, B13, B14⟩ := B1.five.1
         have B2 := B2'
         have kB2 : (w.heap.size + 1 + 1) < w1.heap.size := B2.lt
         obtain ⟨B20, B21, B22, B23, B24⟩ := B2.five.1
         clear B0' B1' B2'
         clear hb)
      | (go_at_call 13; with_reducible refine (RA.out _).mono ?_; rintro e w2 ⟨rfl, hb⟩
         have B0' := B0.below hb B0.lt
         have B1' := B1.below hb B1.lt
         have B2' := B2.below hb B2.lt
         have hw2 : Below w.heap.size w w2 := hw1.trans (hb.mono hw1.size)
         clear B0 B1 B2 kB0 B00 B01 B02 B03 B04 kB1 B10 B11 B12 B13 B14 kB2 B20 B21 B22 B23 B24
         have B0 := B0'
         have kB0 : w.heap.size < w2.heap.size := B0.lt
         obtain ⟨B00, B01, B02, B03, B04⟩ := B0.five.1
         have B1 := B1'
         have kB1 : (w.heap.size + 1) < w2.heap.size := B1.lt
         obtain ⟨B10, B11, B12, B13, B14⟩ := B1.five.1
         have B2 := B2'
         have kB2 : (w.heap.size + 1 + 1) < w2.heap.size := B2.lt
         obtain ⟨B20, B21, B22, B23, B24⟩ := B2.five.1
         clear B0' B1' B2'
         clear hb)
      | (go_at_call 13; with_reducible refine (RB.out _).mono ?_; rintro e w3 ⟨rfl, hb⟩
         have B0' := B0.below hb B0.lt
         have B1' := B1.below hb B1.lt
         have B2' := B2.below hb B2.lt
         have hw3 : Below w.heap.size w w3 := hw2.trans (hb.mono hw2.size)
         clear B0 B1 B2 kB0 B00 B01 B02 B03 B04 kB1 B10 B11 B12 B13 B14 kB2 B20 B21 B22 B23 B24
         have B0 := B0'
         have kB0 : w.heap.size < w3.heap.size := B0.lt
         obtain ⟨B00, B01, B02, B03, B04⟩ := B0.five.1
         have B1 := B1'
         have kB1 : (w.heap.size + 1) < w3.heap.size := B1.lt
         obtain ⟨B10, B11, B12, B13, B14⟩ := B1.five.1
         have B2 := B2'
         have kB2 : (w.heap.size + 1 + 1) < w3.heap.size := B2.lt
         obtain ⟨B20, B21, B22, B23, B24⟩ := B2.five.1
         clear B0' B1' B2'
         clear hb)
      | (go_at_call 13; with_reducible refine (RC.out _).mono ?_; rintro e w4 ⟨rfl, hb⟩
         have B0' := B0.below hb B0.lt
         have B1' := B1.below hb B1.lt
         have B2' := B2.below hb B2.lt
         have hw4 : Below w.heap.size w w4 := hw3.trans (hb.mono hw3.size)
         clear B0 B1 B2 kB0 B00 B01 B02 B03 B04 kB1 B10 B11 B12 B13 B14 kB2 B20 B21 B22 B23 B24
         have B0 := B0'
         have kB0 : w.heap.size < w4.heap.size := B0.lt
         obtain ⟨B00, B01, B02, B03, B04⟩ := B0.five.1
         have B1 := B1'
         have kB1 : (w.heap.size + 1) < w4.heap.size := B1.lt
         obtain ⟨B10, B11, B12, B13, B14⟩ := B1.five.1
         have B2 := B2'
         have kB2 : (w.heap.size + 1 + 1) < w4.heap.size := B2.lt
         obtain ⟨B20, B21, B22, B23, B24⟩ := B2.five.1
         clear B0' B1' B2'
         clear hb)
      | (go_at_call 35; with_reducible refine (C1.out _).mono ?_; rintro e w5 ⟨rfl, hb⟩
         have B0' := B0.below hb B0.lt
         have B1' := B1.below hb B1.lt
         have B2' := B2.below hb B2.lt
         have hw5 : Below w.heap.size w w5 := hw4.trans (hb.mono hw4.size)
         clear B0 B1 B2 kB0 B00 B01 B02 B03 B04 kB1 B10 B11 B12 B13 B14 kB2 B20 B21 B22 B23 B24
         have B0 := B0'
         have kB0 : w.heap.size < w5.heap.size := B0.lt
         obtain ⟨B00, B01, B02, B03, B04⟩ := B0.five.1
         have B1 := B1'
         have kB1 : (w.heap.size + 1) < w5.heap.size := B1.lt
         obtain ⟨B10, B11, B12, B13, B14⟩ := B1.five.1
         have B2 := B2'
         have kB2 : (w.heap.size + 1 + 1) < w5.heap.size := B2.lt
         obtain ⟨B20, B21, B22, B23, B24⟩ := B2.five.1
         clear B0' B1' B2'
         clear hb)
      | (go_at_call 35; with_reducible refine (C2.out _).mono ?_; rintro e w6 ⟨rfl, hb⟩
         have B0' := B0.below hb B0.lt
         have B1' := B1.below hb B1.lt
         have B2' := B2.below hb B2.lt
         have hw6 : Below w.heap.size w w6 := hw5.trans (hb.mono hw5.size)
         clear B0 B1 B2 kB0 B00 B01 B02 B03 B04 kB1 B10 B11 B12 B13 B14 kB2 B20 B21 B22 B23 B24
         have B0 := B0'
         have kB0 : w.heap.size < w6.heap.size := B0.lt
         obtain ⟨B00, B01, B02, B03, B04⟩ := B0.five.1
         have B1 := B1'
         have kB1 : (w.heap.size + 1) < w6.heap.size := B1.lt
         obtain ⟨B10, B11, B12, B13, B14⟩ := B1.five.1
         have B2 := B2'
         have kB2 : (w.heap.size + 1 + 1) < w6.heap.size := B2.lt
         obtain ⟨B20, B21, B22, B23, B24⟩ := B2.five.1
         clear B0' B1' B2'
         clear hb)
      | (go_at_call 35; with_reducible refine (C3.out _).mono ?_; rintro e w7 ⟨rfl, hb⟩
         have B0' := B0.below hb B0.lt
         have B1' := B1.below hb B1.lt
         have B2' := B2.below hb B2.lt
         have hw7 : Below w.heap.size w w7 := hw6.trans (hb.mono hw6.size)
         clear B0 B1 B2 kB0 B00 B01 B02 B03 B04 kB1 B10 B11 B12 B13 B14 kB2 B20 B21 B22 B23 B24
         have B0 := B0'
         have kB0 : w.heap.size < w7.heap.size := B0.lt
         obtain ⟨B00, B01, B02, B03, B04⟩ := B0.five.1
         have B1 := B1'
         have kB1 : (w.heap.size + 1) < w7.heap.size := B1.lt
         obtain ⟨B10, B11, B12, B13, B14⟩ := B1.five.1
         have B2 := B2'
         have kB2 : (w.heap.size + 1 + 1) < w7.heap.size := B2.lt
         obtain ⟨B20, B21, B22, B23, B24⟩ := B2.five.1
         clear B0' B1' B2'
         clear hb)
      | (go_at_call 35; with_reducible refine (C4.out _).mono ?_; rintro e w8 ⟨rfl, hb⟩
         have B0' := B0.below hb B0.lt
         have B1' := B1.below hb B1.lt
         have B2' := B2.below hb B2.lt
         have hw8 : Below w.heap.size w w8 := hw7.trans (hb.mono hw7.size)
         clear B0 B1 B2 kB0 B00 B01 B02 B03 B04 kB1 B10 B11 B12 B13 B14 kB2 B20 B21 B22 B23 B24
         have B0 := B0'
         have kB0 : w.heap.size < w8.heap.size := B0.lt
         obtain ⟨B00, B01, B02, B03, B04⟩ := B0.five.1
         have B1 := B1'
         have kB1 : (w.heap.size + 1) < w8.heap.size := B1.lt
         obtain ⟨B10, B11, B12, B13, B14⟩ := B1.five.1
         have B2 := B2'
         have kB2 : (w.heap.size + 1 + 1) < w8.heap.size := B2.lt
         obtain ⟨B20, B21, B22, B23, B24⟩ := B2.five.1
         clear B0' B1' B2'
         clear hb)
      | (go_at_call 35; with_reducible refine (C5.out _).mono ?_; rintro e w9 ⟨rfl, hb⟩
         have B0' := B0.below hb B0.lt
         have B1' := B1.below hb B1.lt
         have B2' := B2.below hb B2.lt
         have hw9 : Below w.heap.size w w9 := hw8.trans (hb.mono hw8.size)
         clear B0 B1 B2 kB0 B00 B01 B02 B03 B04 kB1 B10 B11 B12 B13 B14 kB2 B20 B21 B22 B23 B24
         have B0 := B0'
         have kB0 : w.heap.size < w9.heap.size := B0.lt
         obtain ⟨B00, B01, B02, B03, B04⟩ := B0.five.1
         have B1 := B1'
         have kB1 : (w.heap.size + 1) < w9.heap.size := B1.lt
         obtain ⟨B10, B11, B12, B13, B14⟩ := B1.five.1
         have B2 := B2'
         have kB2 : (w.heap.size + 1 + 1) < w9.heap.size := B2.lt
         obtain ⟨B20, B21, B22, B23, B24⟩ := B2.five.1
         clear B0' B1' B2'
         clear hb))
      refine bodyPost_ret (v := .bool true) (by simp [results, Tryz.results9, go_sem]) rfl ⟨rfl, ?_⟩
      first | exact hw9 | go_grown
    · have g1 : (g == 0) = false := by simpa using g0
      have g2 : (g != 0) = true := by unfold bne; rw [g1]; rfl
      clear q1 q2 q3 q4 q5 x3 z3
      go_enter Tryz.func9, Tryz.ntmps9
      go_wp2_with (first
      | (go_at_call 29; with_reducible refine (CA.out _ (by go_grown)).mono ?_; rintro e w1 ⟨rfl, hb⟩
         have B0' : Blk w1 w.heap.size #[.int .i64 k, .int .i64 n, .int .i64 s, .string t, .bool b] 24 := (((Blk.here rfl (by simp)).alloc _).alloc _).below hb (by simp <;> omega)
         have B1' : Blk w1 (w.heap.size + 1) #[.int .i64 k2, .int .i64 n2, .int .i64 s2, .string t2, .bool b2] 24 := ((Blk.here rfl (by simp)).alloc _).below hb (by simp <;> omega)
         have B2' : Blk w1 (w.heap.size + 1 + 1) #[.int .i64 k3, .int .i64 n3, .int .i64 s3, .string t3, .bool b3] 24 := (Blk.here rfl (by simp)).below hb (by simp <;> omega)
         have hw1 : Below w.heap.size w w1 := Below.trans (by go_grown) (hb.mono (by simp <;> omega))
         have B0 := B0'
         have kB0 : w.heap.size < w1.heap.size := B0.lt
         obtain ⟨B00, B01, B02, B03, B04⟩ := B0.five.1
         have B1 := B1'
         have kB1 : (w.heap.size + 1) < w1.heap.size := B1.lt
         obtain ⟨B10, B11, B12, B13, B14⟩ := B1.five.1
         have B2 := B2'
         have kB2 : (w.heap.size + 1 + 1) < w1.heap.size := B2.lt
         obtain ⟨B20, B21, B22, B23, B24⟩ := B2.five.1
         clear B0' B1' B2'
         clear hb)
      | (go_at_call 13; with_reducible refine (RA.out _).mono ?_; rintro e w2 ⟨rfl, hb⟩
         have B0' := B0.below hb B0.lt
         have B1' := B1.below hb B1.lt
         have B2' := B2.below hb B2.lt
         have hw2 : Below w.heap.size w w2 := hw1.trans (hb.mono hw1.size)
         clear B0 B1 B2 kB0 B00 B01 B02 B03 B04 kB1 B10 B11 B12 B13 B14 kB2 B20 B21 B22 B23 B24
         have B0 := B0'
         have kB0 : w.heap.size < w2.heap.size := B0.lt
         obtain ⟨B00, B01, B02, B03, B04⟩ := B0.five.1
         have B1 := B1'
         have kB1 : (w.heap.size + 1) < w2.heap.size := B1.lt
         obtain ⟨B10, B11, B12, B13, B14⟩ := B1.five.1
         have B2 := B2'
         have kB2 : (w.heap.size + 1 + 1) < w2.heap.size := B2.lt
         obtain ⟨B20, B21, B22, B23, B24⟩ := B2.five.1
         clear B0' B1' B2'
         clear hb)
      | (go_at_call 13; with_reducible refine (RB.out _).mono ?_; rintro e w3 ⟨rfl, hb⟩
         have B0' := B0.below hb B0.lt
         have B1' := B1.below hb B1.lt
         have B2' := B2.below hb B2.lt
         have hw3 : Below w.heap.size w w3 := hw2.trans (hb.mono hw2.size)
         clear B0 B1 B2 kB0 B00 B01 B02 B03 B04 kB1 B10 B11 B12 B13 B14 kB2 B20 B21 B22 B23 B24
         have B0 := B0'
         have kB0 : w.heap.size < w3.heap.size := B0.lt
         obtain ⟨B00, B01, B02, B03, B04⟩ := B0.five.1
         have B1 := B1'
         have kB1 : (w.heap.size + 1) < w3.heap.size := B1.lt
         obtain ⟨B10, B11, B12, B13, B14⟩ := B1.five.1
         have B2 := B2'
         have kB2 : (w.heap.size + 1 + 1) < w3.heap.size := B2.lt
         obtain ⟨B20, B21, B22, B23, B24⟩ := B2.five.1
         clear B0' B1' B2'
         clear hb)
      | (go_at_call 13; with_reducible refine (RC.out _).mono ?_; rintro e w4 ⟨rfl, hb⟩
         have B0' := B0.below hb B0.lt
         have B1' := B1.below hb B1.lt
         have B2' := B2.below hb B2.lt
         have hw4 : Below w.heap.size w w4 := hw3.trans (hb.mono hw3.size)
         clear B0 B1 B2 kB0 B00 B01 B02 B03 B04 kB1 B10 B11 B12 B13 B14 kB2 B20 B21 B22 B23 B24
         have B0 := B0'
         have kB0 : w.heap.size < w4.heap.size := B0.lt
         obtain ⟨B00, B01, B02, B03, B04⟩ := B0.five.1
         have B1 := B1'
         have kB1 : (w.heap.size + 1) < w4.heap.size := B1.lt
         obtain ⟨B10, B11, B12, B13, B14⟩ := B1.five.1
         have B2 := B2'
         have kB2 : (w.heap.size + 1 + 1) < w4.heap.size := B2.lt
         obtain ⟨B20, B21, B22, B23, B24⟩ := B2.five.1
         clear B0' B1' B2'
         clear hb)
      | (go_at_call 35; with_reducible refine (C1.out _).mono ?_; rintro e w5 ⟨rfl, hb⟩
         have B0' := B0.below hb B0.lt
         have B1' := B1.below hb B1.lt
         have B2' := B2.below hb B2.lt
         have hw5 : Below w.heap.size w w5 := hw4.trans (hb.mono hw4.size)
         clear B0 B1 B2 kB0 B00 B01 B02 B03 B04 kB1 B10 B11 B12 B13 B14 kB2 B20 B21 B22 B23 B24
         have B0 := B0'
         have kB0 : w.heap.size < w5.heap.size := B0.lt
         obtain ⟨B00, B01, B02, B03, B04⟩ := B0.five.1
         have B1 := B1'
         have kB1 : (w.heap.size + 1) < w5.heap.size := B1.lt
         obtain ⟨B10, B11, B12, B13, B14⟩ := B1.five.1
         have B2 := B2'
         have kB2 : (w.heap.size + 1 + 1) < w5.heap.size := B2.lt
         obtain ⟨B20, B21, B22, B23, B24⟩ := B2.five.1
         clear B0' B1' B2'
         clear hb)
      | (go_at_call 35; with_reducible refine (C2.out _).mono ?_; rintro e w6 ⟨rfl, hb⟩
         have B0' := B0.below hb B0.lt
         have B1' := B1.below hb B1.lt
         have B2' := B2.below hb B2.lt
         have hw6 : Below w.heap.size w w6 := hw5.trans (hb.mono hw5.size)
         clear B0 B1 B2 kB0 B00 B01 B02 B03 B04 kB1 B10 B11 B12 B13 B14 kB2 B20 B21 B22 B23 B24
         have B0 := B0'
         have kB0 : w.heap.size < w6.heap.size := B0.lt
         obtain ⟨B00, B01, B02, B03, B04⟩ := B0.five.1
         have B1 := B1'
         have kB1 : (w.heap.size + 1) < w6.heap.size := B1.lt
         obtain ⟨B10, B11, B12, B13, B14⟩ := B1.five.1
         have B2 := B2'
         have kB2 : (w.heap.size + 1 + 1) < w6.heap.size := B2.lt
         obtain ⟨B20, B21, B22, B23, B24⟩ := B2.five.1
         clear B0' B1' B2'
         clear hb)
      | (go_at_call 35; with_reducible refine (C3.out _).mono ?_; rintro e w7 ⟨rfl, hb⟩
         have B0' := B0.below hb B0.lt
         have B1' := B1.below hb B1.lt
         have B2' := B2.below hb B2.lt
         have hw7 : Below w.heap.size w w7 := hw6.trans (hb.mono hw6.size)
         clear B0 B1 B2 kB0 B00 B01 B02 B03 B04 kB1 B10 B11 B12 B13 B14 kB2 B20 B21 B22 B23 B24
         have B0 := B0'
         have kB0 : w.heap.size < w7.heap.size := B0.lt
         obtain ⟨B00, B01, B02, B03, B04⟩ := B0.five.1
         have B1 := B1'
         have kB1 : (w.heap.size + 1) < w7.heap.size := B1.lt
         obtain ⟨B10, B11, B12, B13, B14⟩ := B1.five.1
         have B2 := B2'
         have kB2 : (w.heap.size + 1 + 1) < w7.heap.size := B2.lt
         obtain ⟨B20, B21, B22, B23, B24⟩ := B2.five.1
         clear B0' B1' B2'
         clear hb)
      | (go_at_call 35; with_reducible refine (C4.out _).mono ?_; rintro e w8 ⟨rfl, hb⟩
         have B0' := B0.below hb B0.lt
         have B1' := B1.below hb B1.lt
         have B2' := B2.below hb B2.lt
         have hw8 : Below w.heap.size w w8 := hw7.trans (hb.mono hw7.size)
         clear B0 B1 B2 kB0 B00 B01 B02 B03 B04 kB1 B10 B11 B12 B13 B14 kB2 B20 B21 B22 B23 B24
         have B0 := B0'
         have kB0 : w.heap.size < w8.heap.size := B0.lt
         obtain ⟨B00, B01, B02, B03, B04⟩ := B0.five.1
         have B1 := B1'
         have kB1 : (w.heap.size + 1) < w8.heap.size := B1.lt
         obtain ⟨B10, B11, B12, B13, B14⟩ := B1.five.1
         have B2 := B2'
         have kB2 : (w.heap.size + 1 + 1) < w8.heap.size := B2.lt
         obtain ⟨B20, B21, B22, B23, B24⟩ := B2.five.1
         clear B0' B1' B2'
         clear hb)
      | (go_at_call 35; with_reducible refine (C5.out _).mono ?_; rintro e w9 ⟨rfl, hb⟩
         have B0' := B0.below hb B0.lt
         have B1' := B1.below hb B1.lt
         have B2' := B2.below hb B2.lt
         have hw9 : Below w.heap.size w w9 := hw8.trans (hb.mono hw8.size)
         clear B0 B1 B2 kB0 B00 B01 B02 B03 B04 kB1 B10 B11 B12 B13 B14 kB2 B20 B21 B22 B23 B24
         have B0 := B0'
         have kB0 : w.heap.size < w9.heap.size := B0.lt
         obtain ⟨B00, B01, B02, B03, B04⟩ := B0.five.1
         have B1 := B1'
         have kB1 : (w.heap.size + 1) < w9.heap.size := B1.lt
         obtain ⟨B10, B11, B12, B13, B14⟩ := B1.five.1
         have B2 := B2'
         have kB2 : (w.heap.size + 1 + 1) < w9.heap.size := B2.lt
         obtain ⟨B20, B21, B22, B23, B24⟩ := B2.five.1
         clear B0' B1' B2'
         clear hb))
      refine bodyPost_ret (v := .bool true) (by simp [results, Tryz.results9, go_sem]) rfl ⟨rfl, ?_⟩
      first | exact hw9 | go_grown

theorem orders_walk4 (a c d : At) (ht : a.t.size ≤ 1100000) (hu : c.t.size ≤ 1100000) (hv : d.t.size ≤ 1100000) (m : Int) (w : World) (hL : Laid m w) : Calls Tryz.prog 9 #[AV a, AV c, AV d] w fun e w' => e = .returned (.bool true) ∧ Below w.heap.size w w' := by
  have hA := fun w' (hb : Below w.heap.size w w') => awake4_any m w' (hL.on hb)
  have hR := fun w' => rright_any a.k a.n a.s a.t a.b (by omega) w'
  have hS := fun w' => rright_any c.k c.n c.s c.t c.b (by omega) w'
  have hT := fun w' => rright_any d.k d.n d.s d.t d.b (by omega) w'
  cases h : (rightA a && (rightA c && rightA d))
  · exact orders_early _ _ _ _ _ _ _ _ _ _ _ _ _ _ _ hA _ _ _ hR hS hT h
  · simp only [Bool.and_eq_true] at h
    have ha := rightA_RA h.1
    have hc := rightA_RA h.2.1
    have hd := rightA_RA h.2.2
    rw [show rightA ⟨a.k, a.n, a.s, a.t, a.b⟩ = true from h.1] at hR
    rw [show rightA ⟨c.k, c.n, c.s, c.t, c.b⟩ = true from h.2.1] at hS
    rw [show rightA ⟨d.k, d.n, d.s, d.t, d.b⟩ = true from h.2.2] at hT
    obtain ⟨hO, he⟩ := order_groups ha hc hd
    refine orders_main _ _ _ _ _ _ _ _ _ _ _ _ _ _ _ hA hR hS hT _ _ _ _ _ _ _ (fun w' => order_any a c ha hc w') (fun w' => ?_) (fun w' => order_any c d hc hd w') (fun w' => order_any a d ha hd w') (fun w' => ?_) hO
    · have h := order_any c a hc ha w'
      rw [he] at h
      exact h
    · have h := order_any a a ha ha w'
      rw [order_self ha] at h
      exact h
end Go.Proofs.YtaoobajokhcimaaGreatDoor

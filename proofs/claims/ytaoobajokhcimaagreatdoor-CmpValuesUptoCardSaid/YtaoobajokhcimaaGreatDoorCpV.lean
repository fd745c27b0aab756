/- CmpValues' walk. -/
import Derived.Test.YtaoobajokhcimaaGreatDoorCpH
set_option linter.unusedSimpArgs false
set_option linter.unusedVariables false
set_option linter.constructorNameAsVariable false
namespace Go.Proofs.YtaoobajokhcimaaGreatDoor
open Go.RowKit

set_option maxRecDepth 100000 in
set_option maxHeartbeats 4000000 in
theorem values_early (op : Int) (k n s : Int) (t : ByteArray) (b : Bool) (k2 n2 s2 : Int) (t2 : ByteArray) (b2 : Bool) {w : World} (hA : ∀ w', Below w.heap.size w w' → Calls Tryz.prog 29 #[] w' fun e w'' => e = .returned (.bool true) ∧ Below w'.heap.size w' w'') (ra rb : Bool) (hR : ∀ w', Calls Tryz.prog 13 #[.agg #[.int .i64 k, .int .i64 n, .int .i64 s, .string t, .bool b]] w' fun e w'' => e = .returned (.bool ra) ∧ Below w'.heap.size w' w'') (hS : ∀ w', Calls Tryz.prog 13 #[.agg #[.int .i64 k2, .int .i64 n2, .int .i64 s2, .string t2, .bool b2]] w' fun e w'' => e = .returned (.bool rb) ∧ Below w'.heap.size w' w'') (h : (ra && rb) = false) : Calls Tryz.prog 11 #[.int .i64 op, .agg #[.int .i64 k, .int .i64 n, .int .i64 s, .string t, .bool b], .agg #[.int .i64 k2, .int .i64 n2, .int .i64 s2, .string t2, .bool b2]] w fun e w' => e = .returned (.bool true) ∧ Below w.heap.size w w' := by
  have CA := Lib.hid hA
  have RA := Lib.hid hR
  have RB := Lib.hid hS
  clear hA hR hS
  cases ra
  · clear h
    go_enter Tryz.func11, Tryz.ntmps11
    go_wp2_with (first
      | (go_at_call 29; with_reducible refine (CA.out _ hw2).mono ?_; rintro e w3 ⟨rfl, hb⟩
         have hw3 := hw2.trans (hb.mono hw2.size)
         clear hb)
      | (go_at_call 29; with_reducible refine (CA.out _ (by go_grown)).mono ?_; rintro e w1 ⟨rfl, hb⟩
         have B0' : Blk w1 w.heap.size #[.int .i64 k, .int .i64 n, .int .i64 s, .string t, .bool b] 24 := ((Blk.here rfl (by simp)).alloc _).below hb (by simp <;> omega)
         have B1' : Blk w1 (w.heap.size + 1) #[.int .i64 k2, .int .i64 n2, .int .i64 s2, .string t2, .bool b2] 24 := (Blk.here rfl (by simp)).below hb (by simp <;> omega)
         have hw1 : Below w.heap.size w w1 := Below.trans (by go_grown) (hb.mono (by simp <;> omega))
         have B0 := B0'
         have kB0 : w.heap.size < w1.heap.size := B0.lt
         obtain ⟨B00, B01, B02, B03, B04⟩ := B0.five.1
         have B1 := B1'
         have kB1 : (w.heap.size + 1) < w1.heap.size := B1.lt
         obtain ⟨B10, B11, B12, B13, B14⟩ := B1.five.1
         clear B0' B1'
         clear hb)
      | (go_at_call 13; with_reducible refine (RA.out _).mono ?_; rintro e w2 ⟨rfl, hb⟩
         have B0' := B0.below hb B0.lt
         have B1' := B1.below hb B1.lt
         have hw2 : Below w.heap.size w w2 := hw1.trans (hb.mono hw1.size)
         clear B0 B1 kB0 B00 B01 B02 B03 B04 kB1 B10 B11 B12 B13 B14
         have B0 := B0'
         have kB0 : w.heap.size < w2.heap.size := B0.lt
         obtain ⟨B00, B01, B02, B03, B04⟩ := B0.five.1
         have B1 := B1'
         have kB1 : (w.heap.size + 1) < w2.heap.size := B1.lt
         obtain ⟨B10, B11, B12, B13, B14⟩ := B1.five.1
         clear B0' B1'
         clear hb))
    refine bodyPost_ret (v := .bool true) (by simp [results, Tryz.results11, go_sem]) rfl ⟨rfl, ?_⟩
    first | exact hw3 | go_grown
  · have hb : rb = false := h
    subst hb
    clear h
    go_enter Tryz.func11, Tryz.ntmps11
    go_wp2_with (first
      | (go_at_call 29; with_reducible refine (CA.out _ hw3).mono ?_; rintro e w4 ⟨rfl, hb⟩
         have hw4 := hw3.trans (hb.mono hw3.size)
         clear hb)
      | (go_at_call 29; with_reducible refine (CA.out _ (by go_grown)).mono ?_; rintro e w1 ⟨rfl, hb⟩
         have B0' : Blk w1 w.heap.size #[.int .i64 k, .int .i64 n, .int .i64 s, .string t, .bool b] 24 := ((Blk.here rfl (by simp)).alloc _).below hb (by simp <;> omega)
         have B1' : Blk w1 (w.heap.size + 1) #[.int .i64 k2, .int .i64 n2, .int .i64 s2, .string t2, .bool b2] 24 := (Blk.here rfl (by simp)).below hb (by simp <;> omega)
         have hw1 : Below w.heap.size w w1 := Below.trans (by go_grown) (hb.mono (by simp <;> omega))
         have B0 := B0'
         have kB0 : w.heap.size < w1.heap.size := B0.lt
         obtain ⟨B00, B01, B02, B03, B04⟩ := B0.five.1
         have B1 := B1'
         have kB1 : (w.heap.size + 1) < w1.heap.size := B1.lt
         obtain ⟨B10, B11, B12, B13, B14⟩ := B1.five.1
         clear B0' B1'
         clear hb)
      | (go_at_call 13; with_reducible refine (RA.out _).mono ?_; rintro e w2 ⟨rfl, hb⟩
         have B0' := B0.below hb B0.lt
         have B1' := B1.below hb B1.lt
         have hw2 : Below w.heap.size w w2 := hw1.trans (hb.mono hw1.size)
         clear B0 B1 kB0 B00 B01 B02 B03 B04 kB1 B10 B11 B12 B13 B14
         have B0 := B0'
         have kB0 : w.heap.size < w2.heap.size := B0.lt
         obtain ⟨B00, B01, B02, B03, B04⟩ := B0.five.1
         have B1 := B1'
         have kB1 : (w.heap.size + 1) < w2.heap.size := B1.lt
         obtain ⟨B10, B11, B12, B13, B14⟩ := B1.five.1
         clear B0' B1'
         clear hb)
      | (go_at_call 13; with_reducible refine (RB.out _).mono ?_; rintro e w3 ⟨rfl, hb⟩
         have B0' := B0.below hb B0.lt
         have B1' := B1.below hb B1.lt
         have hw3 : Below w.heap.size w w3 := hw2.trans (hb.mono hw2.size)
         clear B0 B1 kB0 B00 B01 B02 B03 B04 kB1 B10 B11 B12 B13 B14
         have B0 := B0'
         have kB0 : w.heap.size < w3.heap.size := B0.lt
         obtain ⟨B00, B01, B02, B03, B04⟩ := B0.five.1
         have B1 := B1'
         have kB1 : (w.heap.size + 1) < w3.heap.size := B1.lt
         obtain ⟨B10, B11, B12, B13, B14⟩ := B1.five.1
         clear B0' B1'
         clear hb))
    refine bodyPost_ret (v := .bool true) (by simp [results, Tryz.results11, go_sem]) rfl ⟨rfl, ?_⟩
    first | exact hw4 | go_grown

set_option maxRecDepth 100000 in
set_option maxHeartbeats 4000000 in
theorem values_main (op : Int) (k n s : Int) (t : ByteArray) (b : Bool) (k2 n2 s2 : Int) (t2 : ByteArray) (b2 : Bool) {w : World} (hA : ∀ w', Below w.heap.size w w' → Calls Tryz.prog 29 #[] w' fun e w'' => e = .returned (.bool true) ∧ Below w'.heap.size w' w'') (hR : ∀ w', Calls Tryz.prog 13 #[.agg #[.int .i64 k, .int .i64 n, .int .i64 s, .string t, .bool b]] w' fun e w'' => e = .returned (.bool true) ∧ Below w'.heap.size w' w'') (hS : ∀ w', Calls Tryz.prog 13 #[.agg #[.int .i64 k2, .int .i64 n2, .int .i64 s2, .string t2, .bool b2]] w' fun e w'' => e = .returned (.bool true) ∧ Below w'.heap.size w' w'') (o r : Int) (hO : ∀ w', Calls Tryz.prog 35 #[.agg #[.int .i64 k, .int .i64 n, .int .i64 s, .string t, .bool b], .agg #[.int .i64 k2, .int .i64 n2, .int .i64 s2, .string t2, .bool b2]] w' fun e w'' => e = .returned (.tuple #[.int .i64 o, .int .i64 r]) ∧ Below w'.heap.size w' w'') (hQ : ∀ w', Calls Tryz.prog 37 #[.agg #[.int .i64 k, .int .i64 n, .int .i64 s, .string t, .bool b], .agg #[.int .i64 k2, .int .i64 n2, .int .i64 s2, .string t2, .bool b2]] w' fun e w'' => e = .returned (.tuple #[.int .i64 o, .int .i64 r]) ∧ Below w'.heap.size w' w'')
    (hV : ∀ w', Calls Tryz.prog 36 #[.int .i64 op, .agg #[.int .i64 k, .int .i64 n, .int .i64 s, .string t, .bool b], .agg #[.int .i64 k2, .int .i64 n2, .int .i64 s2, .string t2, .bool b2]] w' fun e w'' => e = .returned (.tuple #[.bool (if decide (op < 13) || decide (18 < op) then false else (r == 0 && holdF op o)), .int .i64 (if decide (op < 13) || decide (18 < op) then 2 else r)]) ∧ Below w'.heap.size w' w'') (hE : ∀ w', Calls Tryz.prog 38 #[.agg #[.int .i64 k, .int .i64 n, .int .i64 s, .string t, .bool b], .agg #[.int .i64 k2, .int .i64 n2, .int .i64 s2, .string t2, .bool b2]] w' fun e w'' => e = .returned (.bool (r == 0 && o == 0)) ∧ Below w'.heap.size w' w'') (ho : o = -1 ∨ o = 0 ∨ o = 1) :
    Calls Tryz.prog 11 #[.int .i64 op, .agg #[.int .i64 k, .int .i64 n, .int .i64 s, .string t, .bool b], .agg #[.int .i64 k2, .int .i64 n2, .int .i64 s2, .string t2, .bool b2]] w fun e w' => e = .returned (.bool true) ∧ Below w.heap.size w w' := by
  have CA := Lib.hid hA
  have RA := Lib.hid hR
  have RB := Lib.hid hS
  have CO := Lib.hid hO
  have CR := Lib.hid hQ
  have CE := Lib.hid hE
  clear hA hR hS hO hQ hE
  have CH := Lib.hid (fun w => rholds_any (op - 13) o w)
  cases hop : (decide (op < 13) || decide (18 < op))
  · rw [hop] at hV
    simp only [Bool.false_eq_true, if_false] at hV
    rw [hold_eq hop ho] at CH
    have CV := Lib.hid hV
    clear hV
    simp only [Bool.or_eq_false_iff] at hop
    obtain ⟨e1, e2⟩ := hop
    have p1 : IntKind.i64.wrap (op - 13) = op - 13 := IntWalk.i64_in _ (by simp at e1 e2; omega)
    generalize holdF op o = H at *
    cases e0 : (r == 0)
    · rw [e0] at CE CV
      go_enter Tryz.func11, Tryz.ntmps11
      go_wp2_with (first
      | (go_at_call 29; with_reducible refine (CA.out _ (by go_grown)).mono ?_; rintro e w1 ⟨rfl, hb⟩
         have B0' : Blk w1 w.heap.size #[.int .i64 k, .int .i64 n, .int .i64 s, .string t, .bool b] 24 := ((Blk.here rfl (by simp)).alloc _).below hb (by simp <;> omega)
         have B1' : Blk w1 (w.heap.size + 1) #[.int .i64 k2, .int .i64 n2, .int .i64 s2, .string t2, .bool b2] 24 := (Blk.here rfl (by simp)).below hb (by simp <;> omega)
         have hw1 : Below w.heap.size w w1 := Below.trans (by go_grown) (hb.mono (by simp <;> omega))
         have B0 := B0'
         have kB0 : w.heap.size < w1.heap.size := B0.lt
         obtain ⟨B00, B01, B02, B03, B04⟩ := B0.five.1
         have B1 := B1'
         have kB1 : (w.heap.size + 1) < w1.heap.size := B1.lt
         obtain ⟨B10, B11, B12, B13, B14⟩ := B1.five.1
         clear B0' B1'
         clear hb)
      | (go_at_call 13; with_reducible refine (RA.out _).mono ?_; rintro e w2 ⟨rfl, hb⟩
         have B0' := B0.below hb B0.lt
         have B1' := B1.below hb B1.lt
         have hw2 : Below w.heap.size w w2 := hw1.trans (hb.mono hw1.size)
         clear B0 B1 kB0 B00 B01 B02 B03 B04 kB1 B10 B11 B12 B13 B14
         have B0 := B0'
         have kB0 : w.heap.size < w2.heap.size := B0.lt
         obtain ⟨B00, B01, B02, B03, B04⟩ := B0.five.1
         have B1 := B1'
         have kB1 : (w.heap.size + 1) < w2.heap.size := B1.lt
         obtain ⟨B10, B11, B12, B13, B14⟩ := B1.five.1
         clear B0' B1'
         clear hb)
      | (go_at_call 13; with_reducible refine (RB.out _).mono ?_; rintro e w3 ⟨rfl, hb⟩
         have B0' := B0.below hb B0.lt
         have B1' := B1.below hb B1.lt
         have hw3 : Below w.heap.size w w3 := hw2.trans (hb.mono hw2.size)
         clear B0 B1 kB0 B00 B01 B02 B03 B04 kB1 B10 B11 B12 B13 B14
         have B0 := B0'
         have kB0 : w.heap.size < w3.heap.size := B0.lt
         obtain ⟨B00, B01, B02, B03, B04⟩ := B0.five.1
         have B1 := B1'
         have kB1 : (w.heap.size + 1) < w3.heap.size := B1.lt
         obtain ⟨B10, B11, B12, B13, B14⟩ := B1.five.1
         clear B0' B1'
         clear hb)
      | (go_at_call 35; with_reducible refine (CO.out _).mono ?_; rintro e w4 ⟨rfl, hb⟩
         have B0' := B0.below hb B0.lt
         have B1' := B1.below hb B1.lt
         have hw4 : Below w.heap.size w w4 := hw3.trans (hb.mono hw3.size)
         clear B0 B1 kB0 B00 B01 B02 B03 B04 kB1 B10 B11 B12 B13 B14
         have B0 := B0'
         have kB0 : w.heap.size < w4.heap.size := B0.lt
         obtain ⟨B00, B01, B02, B03, B04⟩ := B0.five.1
         have B1 := B1'
         have kB1 : (w.heap.size + 1) < w4.heap.size := B1.lt
         obtain ⟨B10, B11, B12, B13, B14⟩ := B1.five.1
         clear B0' B1'
         clear hb)
      | (go_at_call 37; with_reducible refine (CR.out _).mono ?_; rintro e w5 ⟨rfl, hb⟩
         have B0' := B0.below hb B0.lt
         have B1' := B1.below hb B1.lt
         have hw5 : Below w.heap.size w w5 := hw4.trans (hb.mono hw4.size)
         clear B0 B1 kB0 B00 B01 B02 B03 B04 kB1 B10 B11 B12 B13 B14
         have B0 := B0'
         have kB0 : w.heap.size < w5.heap.size := B0.lt
         obtain ⟨B00, B01, B02, B03, B04⟩ := B0.five.1
         have B1 := B1'
         have kB1 : (w.heap.size + 1) < w5.heap.size := B1.lt
         obtain ⟨B10, B11, B12, B13, B14⟩ := B1.five.1
         clear B0' B1'
         clear hb)
      | (go_at_call 36; with_reducible refine (CV.out _).mono ?_; rintro e w6 ⟨rfl, hb⟩
         have B0' := B0.below hb B0.lt
         have B1' := B1.below hb B1.lt
         have hw6 : Below w.heap.size w w6 := hw5.trans (hb.mono hw5.size)
         clear B0 B1 kB0 B00 B01 B02 B03 B04 kB1 B10 B11 B12 B13 B14
         have B0 := B0'
         have kB0 : w.heap.size < w6.heap.size := B0.lt
         obtain ⟨B00, B01, B02, B03, B04⟩ := B0.five.1
         have B1 := B1'
         have kB1 : (w.heap.size + 1) < w6.heap.size := B1.lt
         obtain ⟨B10, B11, B12, B13, B14⟩ := B1.five.1
         clear B0' B1'
         clear hb)
      | (go_at_call 38; with_reducible refine (CE.out _).mono ?_; rintro e w7 ⟨rfl, hb⟩
         have B0' := B0.below hb B0.lt
         have B1' := B1.below hb B1.lt
         have hw7 : Below w.heap.size w w7 := hw6.trans (hb.mono hw6.size)
         clear B0 B1 kB0 B00 B01 B02 B03 B04 kB1 B10 B11 B12 B13 B14
         have B0 := B0'
         have kB0 : w.heap.size < w7.heap.size := B0.lt
         obtain ⟨B00, B01, B02, B03, B04⟩ := B0.five.1
         have B1 := B1'
         have kB1 : (w.heap.size + 1) < w7.heap.size := B1.lt
         obtain ⟨B10, B11, B12, B13, B14⟩ := B1.five.1
         clear B0' B1'
         clear hb)
      | (go_at_call 39; with_reducible refine (CH.out _).mono ?_; rintro e w8 ⟨rfl, rfl⟩))
      refine bodyPost_ret (v := .bool true) (by simp [results, Tryz.results11, go_sem]) rfl ⟨rfl, ?_⟩
      first | exact hw7 | go_grown
    · rw [e0] at CE CV
      cases e3 : (o == 0)
      all_goals rw [e3] at CE
      all_goals
        go_enter Tryz.func11, Tryz.ntmps11
        go_wp2_with (first
      | (go_at_call 29; with_reducible refine (CA.out _ (by go_grown)).mono ?_; rintro e w1 ⟨rfl, hb⟩
         have B0' : Blk w1 w.heap.size #[.int .i64 k, .int .i64 n, .int .i64 s, .string t, .bool b] 24 := ((Blk.here rfl (by simp)).alloc _).below hb (by simp <;> omega)
         have B1' : Blk w1 (w.heap.size + 1) #[.int .i64 k2, .int .i64 n2, .int .i64 s2, .string t2, .bool b2] 24 := (Blk.here rfl (by simp)).below hb (by simp <;> omega)
         have hw1 : Below w.heap.size w w1 := Below.trans (by go_grown) (hb.mono (by simp <;> omega))
         have B0 := B0'
         have kB0 : w.heap.size < w1.heap.size := B0.lt
         obtain ⟨B00, B01, B02, B03, B04⟩ := B0.five.1
         have B1 := B1'
         have kB1 : (w.heap.size + 1) < w1.heap.size := B1.lt
         obtain ⟨B10, B11, B12, B13, B14⟩ := B1.five.1
         clear B0' B1'
         clear hb)
      | (go_at_call 13; with_reducible refine (RA.out _).mono ?_; rintro e w2 ⟨rfl, hb⟩
         have B0' := B0.below hb B0.lt
         have B1' := B1.below hb B1.lt
         have hw2 : Below w.heap.size w w2 := hw1.trans (hb.mono hw1.size)
         clear B0 B1 kB0 B00 B01 B02 B03 B04 kB1 B10 B11 B12 B13 B14
         have B0 := B0'
         have kB0 : w.heap.size < w2.heap.size := B0.lt
         obtain ⟨B00, B01, B02, B03, B04⟩ := B0.five.1
         have B1 := B1'
         have kB1 : (w.heap.size + 1) < w2.heap.size := B1.lt
         obtain ⟨B10, B11, B12, B13, B14⟩ := B1.five.1
         clear B0' B1'
         clear hb)
      | (go_at_call 13; with_reducible refine (RB.out _).mono ?_; rintro e w3 ⟨rfl, hb⟩
         have B0' := B0.below hb B0.lt
         have B1' := B1.below hb B1.lt
         have hw3 : Below w.heap.size w w3 := hw2.trans (hb.mono hw2.size)
         clear B0 B1 kB0 B00 B01 B02 B03 B04 kB1 B10 B11 B12 B13 B14
         have B0 := B0'
         have kB0 : w.heap.size < w3.heap.size := B0.lt
         obtain ⟨B00, B01, B02, B03, B04⟩ := B0.five.1
         have B1 := B1'
         have kB1 : (w.heap.size + 1) < w3.heap.size := B1.lt
         obtain ⟨B10, B11, B12, B13, B14⟩ := B1.five.1
         clear B0' B1'
         clear hb)
      | (go_at_call 35; with_reducible refine (CO.out _).mono ?_; rintro e w4 ⟨rfl, hb⟩
         have B0' := B0.below hb B0.lt
         have B1' := B1.below hb B1.lt
         have hw4 : Below w.heap.size w w4 := hw3.trans (hb.mono hw3.size)
         clear B0 B1 kB0 B00 B01 B02 B03 B04 kB1 B10 B11 B12 B13 B14
         have B0 := B0'
         have kB0 : w.heap.size < w4.heap.size := B0.lt
         obtain ⟨B00, B01, B02, B03, B04⟩ := B0.five.1
         have B1 := B1'
         have kB1 : (w.heap.size + 1) < w4.heap.size := B1.lt
         obtain ⟨B10, B11, B12, B13, B14⟩ := B1.five.1
         clear B0' B1'
         clear hb)
      | (go_at_call 37; with_reducible refine (CR.out _).mono ?_; rintro e w5 ⟨rfl, hb⟩
         have B0' := B0.below hb B0.lt
         have B1' := B1.below hb B1.lt
         have hw5 : Below w.heap.size w w5 := hw4.trans (hb.mono hw4.size)
         clear B0 B1 kB0 B00 B01 B02 B03 B04 kB1 B10 B11 B12 B13 B14
         have B0 := B0'
         have kB0 : w.heap.size < w5.heap.size := B0.lt
         obtain ⟨B00, B01, B02, B03, B04⟩ := B0.five.1
         have B1 := B1'
         have kB1 : (w.heap.size + 1) < w5.heap.size := B1.lt
         obtain ⟨B10, B11, B12, B13, B14⟩ := B1.five.1
         clear B0' B1'
         clear hb)
      | (go_at_call 36; with_reducible refine (CV.out _).mono ?_; rintro e w6 ⟨rfl, hb⟩
         have B0' := B0.below hb B0.lt
         have B1' := B1.below hb B1.lt
         have hw6 : Below w.heap.size w w6 := hw5.trans (hb.mono hw5.size)
         clear B0 B1 kB0 B00 B01 B02 B03 B04 kB1 B10 B11 B12 B13 B14
         have B0 := B0'
         have kB0 : w.heap.size < w6.heap.size := B0.lt
         obtain ⟨B00, B01, B02, B03, B04⟩ := B0.five.1
         have B1 := B1'
         have kB1 : (w.heap.size + 1) < w6.heap.size := B1.lt
         obtain ⟨B10, B11, B12, B13, B14⟩ := B1.five.1
         clear B0' B1'
         clear hb)
      | (go_at_call 38; with_reducible refine (CE.out _).mono ?_; rintro e w7 ⟨rfl, hb⟩
         have B0' := B0.below hb B0.lt
         have B1' := B1.below hb B1.lt
         have hw7 : Below w.heap.size w w7 := hw6.trans (hb.mono hw6.size)
         clear B0 B1 kB0 B00 B01 B02 B03 B04 kB1 B10 B11 B12 B13 B14
         have B0 := B0'
         have kB0 : w.heap.size < w7.heap.size := B0.lt
         obtain ⟨B00, B01, B02, B03, B04⟩ := B0.five.1
         have B1 := B1'
         have kB1 : (w.heap.size + 1) < w7.heap.size := B1.lt
         obtain ⟨B10, B11, B12, B13, B14⟩ := B1.five.1
         clear B0' B1'
         clear hb)
      | (go_at_call 39; with_reducible refine (CH.out _).mono ?_; rintro e w8 ⟨rfl, rfl⟩))
        refine bodyPost_ret (v := .bool true) (by simp [results, Tryz.results11, go_sem]) rfl ⟨rfl, ?_⟩
        first | exact hw7 | go_grown
  · rw [hop] at hV
    simp only [if_true] at hV
    have CV := Lib.hid hV
    clear hV CH
    cases e1 : decide (op < 13)
    · rw [e1] at hop
      have e2 : decide (18 < op) = true := hop
      clear hop
      cases e0 : (r == 0)
      · rw [e0] at CE
        go_enter Tryz.func11, Tryz.ntmps11
        go_wp2_with (first
      | (go_at_call 29; with_reducible refine (CA.out _ (by go_grown)).mono ?_; rintro e w1 ⟨rfl, hb⟩
         have B0' : Blk w1 w.heap.size #[.int .i64 k, .int .i64 n, .int .i64 s, .string t, .bool b] 24 := ((Blk.here rfl (by simp)).alloc _).below hb (by simp <;> omega)
         have B1' : Blk w1 (w.heap.size + 1) #[.int .i64 k2, .int .i64 n2, .int .i64 s2, .string t2, .bool b2] 24 := (Blk.here rfl (by simp)).below hb (by simp <;> omega)
         have hw1 : Below w.heap.size w w1 := Below.trans (by go_grown) (hb.mono (by simp <;> omega))
         have B0 := B0'
         have kB0 : w.heap.size < w1.heap.size := B0.lt
         obtain ⟨B00, B01, B02, B03, B04⟩ := B0.five.1
         have B1 := B1'
         have kB1 : (w.heap.size + 1) < w1.heap.size := B1.lt
         obtain ⟨B10, B11, B12, B13, B14⟩ := B1.five.1
         clear B0' B1'
         clear hb)
      | (go_at_call 13; with_reducible refine (RA.out _).mono ?_; rintro e w2 ⟨rfl, hb⟩
         have B0' := B0.below hb B0.lt
         have B1' := B1.below hb B1.lt
         have hw2 : Below w.heap.size w w2 := hw1.trans (hb.mono hw1.size)
         clear B0 B1 kB0 B00 B01 B02 B03 B04 kB1 B10 B11 B12 B13 B14
         have B0 := B0'
         have kB0 : w.heap.size < w2.heap.size := B0.lt
         obtain ⟨B00, B01, B02, B03, B04⟩ := B0.five.1
         have B1 := B1'
         have kB1 : (w.heap.size + 1) < w2.heap.size := B1.lt
         obtain ⟨B10, B11, B12, B13, B14⟩ := B1.five.1
         clear B0' B1'
         clear hb)
      | (go_at_call 13; with_reducible refine (RB.out _).mono ?_; rintro e w3 ⟨rfl, hb⟩
         have B0' := B0.below hb B0.lt
         have B1' := B1.below hb B1.lt
         have hw3 : Below w.heap.size w w3 := hw2.trans (hb.mono hw2.size)
         clear B0 B1 kB0 B00 B01 B02 B03 B04 kB1 B10 B11 B12 B13 B14
         have B0 := B0'
         have kB0 : w.heap.size < w3.heap.size := B0.lt
         obtain ⟨B00, B01, B02, B03, B04⟩ := B0.five.1
         have B1 := B1'
         have kB1 : (w.heap.size + 1) < w3.heap.size := B1.lt
         obtain ⟨B10, B11, B12, B13, B14⟩ := B1.five.1
         clear B0' B1'
         clear hb)
      | (go_at_call 35; with_reducible refine (CO.out _).mono ?_; rintro e w4 ⟨rfl, hb⟩
         have B0' := B0.below hb B0.lt
         have B1' := B1.below hb B1.lt
         have hw4 : Below w.heap.size w w4 := hw3.trans (hb.mono hw3.size)
         clear B0 B1 kB0 B00 B01 B02 B03 B04 kB1 B10 B11 B12 B13 B14
         have B0 := B0'
         have kB0 : w.heap.size < w4.heap.size := B0.lt
         obtain ⟨B00, B01, B02, B03, B04⟩ := B0.five.1
         have B1 := B1'
         have kB1 : (w.heap.size + 1) < w4.heap.size := B1.lt
         obtain ⟨B10, B11, B12, B13, B14⟩ := B1.five.1
         clear B0' B1'
         clear hb)
      | (go_at_call 37; with_reducible refine (CR.out _).mono ?_; rintro e w5 ⟨rfl, hb⟩
         have B0' := B0.below hb B0.lt
         have B1' := B1.below hb B1.lt
         have hw5 : Below w.heap.size w w5 := hw4.trans (hb.mono hw4.size)
         clear B0 B1 kB0 B00 B01 B02 B03 B04 kB1 B10 B11 B12 B13 B14
         have B0 := B0'
         have kB0 : w.heap.size < w5.heap.size := B0.lt
         obtain ⟨B00, B01, B02, B03, B04⟩ := B0.five.1
         have B1 := B1'
         have kB1 : (w.heap.size + 1) < w5.heap.size := B1.lt
         obtain ⟨B10, B11, B12, B13, B14⟩ := B1.five.1
         clear B0' B1'
         clear hb)
      | (go_at_call 36; with_reducible refine (CV.out _).mono ?_; rintro e w6 ⟨rfl, hb⟩
         have B0' := B0.below hb B0.lt
         have B1' := B1.below hb B1.lt
         have hw6 : Below w.heap.size w w6 := hw5.trans (hb.mono hw5.size)
         clear B0 B1 kB0 B00 B01 B02 B03 B04 kB1 B10 B11 B12 B13 B14
         have B0 := B0'
         have kB0 : w.heap.size < w6.heap.size := B0.lt
         obtain ⟨B00, B01, B02, B03, B04⟩ := B0.five.1
         have B1 := B1'
         have kB1 : (w.heap.size + 1) < w6.heap.size := B1.lt
         obtain ⟨B10, B11, B12, B13, B14⟩ := B1.five.1
         clear B0' B1'
         clear hb)
      | (go_at_call 38; with_reducible refine (CE.out _).mono ?_; rintro e w7 ⟨rfl, hb⟩
         have B0' := B0.below hb B0.lt
         have B1' := B1.below hb B1.lt
         have hw7 : Below w.heap.size w w7 := hw6.trans (hb.mono hw6.size)
         clear B0 B1 kB0 B00 B01 B02 B03 B04 kB1 B10 B11 B12 B13 B14
         have B0 := B0'
         have kB0 : w.heap.size < w7.heap.size := B0.lt
         obtain ⟨B00, B01, B02, B03, B04⟩ := B0.five.1
         have B1 := B1'
         have kB1 : (w.heap.size + 1) < w7.heap.size := B1.lt
         obtain ⟨B10, B11, B12, B13, B14⟩ := B1.five.1
         clear B0' B1'
         clear hb)
      | fail)
        refine bodyPost_ret (v := .bool true) (by simp [results, Tryz.results11, go_sem]) rfl ⟨rfl, ?_⟩
        first | exact hw7 | go_grown
      · rw [e0] at CE
        cases e3 : (o == 0)
        all_goals rw [e3] at CE
        all_goals
          go_enter Tryz.func11, Tryz.ntmps11
          go_wp2_with (first
      | (go_at_call 29; with_reducible refine (CA.out _ (by go_grown)).mono ?_; rintro e w1 ⟨rfl, hb⟩
         have B0' : Blk w1 w.heap.size #[.int .i64 k, .int .i64 n, .int .i64 s, .string t, .bool b] 24 := ((Blk.here rfl (by simp)).alloc _).below hb (by simp <;> omega)
         have B1' : Blk w1 (w.heap.size + 1) #[.int .i64 k2, .int .i64 n2, .int .i64 s2, .string t2, .bool b2] 24 := (Blk.here rfl (by simp)).below hb (by simp <;> omega)
         have hw1 : Below w.heap.size w w1 := Below.trans (by go_grown) (hb.mono (by simp <;> omega))
         have B0 := B0'
         have kB0 : w.heap.size < w1.heap.size := B0.lt
         obtain ⟨B00, B01, B02, B03, B04⟩ := B0.five.1
         have B1 := B1'
         have kB1 : (w.heap.size + 1) < w1.heap.size := B1.lt
         obtain ⟨B10, B11, B12, B13, B14⟩ := B1.five.1
         clear B0' B1'
         clear hb)
      | (go_at_call 13; with_reducible refine (RA.out _).mono ?_; rintro e w2 ⟨rfl, hb⟩
         have B0' := B0.below hb B0.lt
         have B1' := B1.below hb B1.lt
         have hw2 : Below w.heap.size w w2 := hw1.trans (hb.mono hw1.size)
         clear B0 B1 kB0 B00 B01 B02 B03 B04 kB1 B10 B11 B12 B13 B14
         have B0 := B0'
         have kB0 : w.heap.size < w2.heap.size := B0.lt
         obtain ⟨B00, B01, B02, B03, B04⟩ := B0.five.1
         have B1 := B1'
         have kB1 : (w.heap.size + 1) < w2.heap.size := B1.lt
         obtain ⟨B10, B11, B12, B13, B14⟩ := B1.five.1
         clear B0' B1'
         clear hb)
      | (go_at_call 13; with_reducible refine (RB.out _).mono ?_; rintro e w3 ⟨rfl, hb⟩
         have B0' := B0.below hb B0.lt
         have B1' := B1.below hb B1.lt
         have hw3 : Below w.heap.size w w3 := hw2.trans (hb.mono hw2.size)
         clear B0 B1 kB0 B00 B01 B02 B03 B04 kB1 B10 B11 B12 B13 B14
         have B0 := B0'
         have kB0 : w.heap.size < w3.heap.size := B0.lt
         obtain ⟨B00, B01, B02, B03, B04⟩ := B0.five.1
         have B1 := B1'
         have kB1 : (w.heap.size + 1) < w3.heap.size := B1.lt
         obtain ⟨B10, B11, B12, B13, B14⟩ := B1.five.1
         clear B0' B1'
         clear hb)
      | (go_at_call 35; with_reducible refine (CO.out _).mono ?_; rintro e w4 ⟨rfl, hb⟩
         have B0' := B0.below hb B0.lt
         have B1' := B1.below hb B1.lt
         have hw4 : Below w.heap.size w w4 := hw3.trans (hb.mono hw3.size)
         clear B0 B1 kB0 B00 B01 B02 B03 B04 kB1 B10 B11 B12 B13 B14
         have B0 := B0'
         have kB0 : w.heap.size < w4.heap.size := B0.lt
         obtain ⟨B00, B01, B02, B03, B04⟩ := B0.five.1
         have B1 := B1'
         have kB1 : (w.heap.size + 1) < w4.heap.size := B1.lt
         obtain ⟨B10, B11, B12, B13, B14⟩ := B1.five.1
         clear B0' B1'
         clear hb)
      | (go_at_call 37; with_reducible refine (CR.out _).mono ?_; rintro e w5 ⟨rfl, hb⟩
         have B0' := B0.below hb B0.lt
         have B1' := B1.below hb B1.lt
         have hw5 : Below w.heap.size w w5 := hw4.trans (hb.mono hw4.size)
         clear B0 B1 kB0 B00 B01 B02 B03 B04 kB1 B10 B11 B12 B13 B14
         have B0 := B0'
         have kB0 : w.heap.size < w5.heap.size := B0.lt
         obtain ⟨B00, B01, B02, B03, B04⟩ := B0.five.1
         have B1 := B1'
         have kB1 : (w.heap.size + 1) < w5.heap.size := B1.lt
         obtain ⟨B10, B11, B12, B13, B14⟩ := B1.five.1
         clear B0' B1'
         clear hb)
      | (go_at_call 36; with_reducible refine (CV.out _).mono ?_; rintro e w6 ⟨rfl, hb⟩
         have B0' := B0.below hb B0.lt
         have B1' := B1.below hb B1.lt
         have hw6 : Below w.heap.size w w6 := hw5.trans (hb.mono hw5.size)
         clear B0 B1 kB0 B00 B01 B02 B03 B04 kB1 B10 B11 B12 B13 B14
         have B0 := B0'
         have kB0 : w.heap.size < w6.heap.size := B0.lt
         obtain ⟨B00, B01, B02, B03, B04⟩ := B0.five.1
         have B1 := B1'
         have kB1 : (w.heap.size + 1) < w6.heap.size := B1.lt
         obtain ⟨B10, B11, B12, B13, B14⟩ := B1.five.1
         clear B0' B1'
         clear hb)
      | (go_at_call 38; with_reducible refine (CE.out _).mono ?_; rintro e w7 ⟨rfl, hb⟩
         have B0' := B0.below hb B0.lt
         have B1' := B1.below hb B1.lt
         have hw7 : Below w.heap.size w w7 := hw6.trans (hb.mono hw6.size)
         clear B0 B1 kB0 B00 B01 B02 B03 B04 kB1 B10 B11 B12 B13 B14
         have B0 := B0'
         have kB0 : w.heap.size < w7.heap.size := B0.lt
         obtain ⟨B00, B01, B02, B03, B04⟩ := B0.five.1
         have B1 := B1'
         have kB1 : (w.heap.size + 1) < w7.heap.size := B1.lt
         obtain ⟨B10, B11, B12, B13, B14⟩ := B1.five.1
         clear B0' B1'
         clear hb)
      | fail)
          refine bodyPost_ret (v := .bool true) (by simp [results, Tryz.results11, go_sem]) rfl ⟨rfl, ?_⟩
          first | exact hw7 | go_grown
    · clear hop
      cases e0 : (r == 0)
      · rw [e0] at CE
        go_enter Tryz.func11, Tryz.ntmps11
        go_wp2_with (first
      | (go_at_call 29; with_reducible refine (CA.out _ (by go_grown)).mono ?_; rintro e w1 ⟨rfl, hb⟩
         have B0' : Blk w1 w.heap.size #[.int .i64 k, .int .i64 n, .int .i64 s, .string t, .bool b] 24 := ((Blk.here rfl (by simp)).alloc _).below hb (by simp <;> omega)
         have B1' : Blk w1 (w.heap.size + 1) #[.int .i64 k2, .int .i64 n2, .int .i64 s2, .string t2, .bool b2] 24 := (Blk.here rfl (by simp)).below hb (by simp <;> omega)
         have hw1 : Below w.heap.size w w1 := Below.trans (by go_grown) (hb.mono (by simp <;> omega))
         have B0 := B0'
         have kB0 : w.heap.size < w1.heap.size := B0.lt
         obtain ⟨B00, B01, B02, B03, B04⟩ := B0.five.1
         have B1 := B1'
         have kB1 : (w.heap.size + 1) < w1.heap.size := B1.lt
         obtain ⟨B10, B11, B12, B13, B14⟩ := B1.five.1
         clear B0' B1'
         clear hb)
      | (go_at_call 13; with_reducible refine (RA.out _).mono ?_; rintro e w2 ⟨rfl, hb⟩
         have B0' := B0.below hb B0.lt
         have B1' := B1.below hb B1.lt
         have hw2 : Below w.heap.size w w2 := hw1.trans (hb.mono hw1.size)
         clear B0 B1 kB0 B00 B01 B02 B03 B04 kB1 B10 B11 B12 B13 B14
         have B0 := B0'
         have kB0 : w.heap.size < w2.heap.size := B0.lt
         obtain ⟨B00, B01, B02, B03, B04⟩ := B0.five.1
         have B1 := B1'
         have kB1 : (w.heap.size + 1) < w2.heap.size := B1.lt
         obtain ⟨B10, B11, B12, B13, B14⟩ := B1.five.1
         clear B0' B1'
         clear hb)
      | (go_at_call 13; with_reducible refine (RB.out _).mono ?_; rintro e w3 ⟨rfl, hb⟩
         have B0' := B0.below hb B0.lt
         have B1' := B1.below hb B1.lt
         have hw3 : Below w.heap.size w w3 := hw2.trans (hb.mono hw2.size)
         clear B0 B1 kB0 B00 B01 B02 B03 B04 kB1 B10 B11 B12 B13 B14
         have B0 := B0'
         have kB0 : w.heap.size < w3.heap.size := B0.lt
         obtain ⟨B00, B01, B02, B03, B04⟩ := B0.five.1
         have B1 := B1'
         have kB1 : (w.heap.size + 1) < w3.heap.size := B1.lt
         obtain ⟨B10, B11, B12, B13, B14⟩ := B1.five.1
         clear B0' B1'
         clear hb)
      | (go_at_call 35; with_reducible refine (CO.out _).mono ?_; rintro e w4 ⟨rfl, hb⟩
         have B0' := B0.below hb B0.lt
         have B1' := B1.below hb B1.lt
         have hw4 : Below w.heap.size w w4 := hw3.trans (hb.mono hw3.size)
         clear B0 B1 kB0 B00 B01 B02 B03 B04 kB1 B10 B11 B12 B13 B14
         have B0 := B0'
         have kB0 : w.heap.size < w4.heap.size := B0.lt
         obtain ⟨B00, B01, B02, B03, B04⟩ := B0.five.1
         have B1 := B1'
         have kB1 : (w.heap.size + 1) < w4.heap.size := B1.lt
         obtain ⟨B10, B11, B12, B13, B14⟩ := B1.five.1
         clear B0' B1'
         clear hb)
      | (go_at_call 37; with_reducible refine (CR.out _).mono ?_; rintro e w5 ⟨rfl, hb⟩
         have B0' := B0.below hb B0.lt
         have B1' := B1.below hb B1.lt
         have hw5 : Below w.heap.size w w5 := hw4.trans (hb.mono hw4.size)
         clear B0 B1 kB0 B00 B01 B02 B03 B04 kB1 B10 B11 B12 B13 B14
         have B0 := B0'
         have kB0 : w.heap.size < w5.heap.size := B0.lt
         obtain ⟨B00, B01, B02, B03, B04⟩ := B0.five.1
         have B1 := B1'
         have kB1 : (w.heap.size + 1) < w5.heap.size := B1.lt
         obtain ⟨B10, B11, B12, B13, B14⟩ := B1.five.1
         clear B0' B1'
         clear hb)
      | (go_at_call 36; with_reducible refine (CV.out _).mono ?_; rintro e w6 ⟨rfl, hb⟩
         have B0' := B0.below hb B0.lt
         have B1' := B1.below hb B1.lt
         have hw6 : Below w.heap.size w w6 := hw5.trans (hb.mono hw5.size)
         clear B0 B1 kB0 B00 B01 B02 B03 B04 kB1 B10 B11 B12 B13 B14
         have B0 := B0'
         have kB0 : w.heap.size < w6.heap.size := B0.lt
         obtain ⟨B00, B01, B02, B03, B04⟩ := B0.five.1
         have B1 := B1'
         have kB1 : (w.heap.size + 1) < w6.heap.size := B1.lt
         obtain ⟨B10, B11, B12, B13, B14⟩ := B1.five.1
         clear B0' B1'
         clear hb)
      | (go_at_call 38; with_reducible refine (CE.out _).mono ?_; rintro e w7 ⟨rfl, hb⟩
         have B0' := B0.below hb B0.lt
         have B1' := B1.below hb B1.lt
         have hw7 : Below w.heap.size w w7 := hw6.trans (hb.mono hw6.size)
         clear B0 B1 kB0 B00 B01 B02 B03 B04 kB1 B10 B11 B12 B13 B14
         have B0 := B0'
         have kB0 : w.heap.size < w7.heap.size := B0.lt
         obtain ⟨B00, B01, B02, B03, B04⟩ := B0.five.1
         have B1 := B1'
         have kB1 : (w.heap.size + 1) < w7.heap.size := B1.lt
         obtain ⟨B10, B11, B12, B13, B14⟩ := B1.five.1
         clear B0' B1'
         clear hb)
      | fail)
        refine bodyPost_ret (v := .bool true) (by simp [results, Tryz.results11, go_sem]) rfl ⟨rfl, ?_⟩
        first | exact hw7 | go_grown
      · rw [e0] at CE
        cases e3 : (o == 0)
        all_goals rw [e3] at CE
        all_goals
          go_enter Tryz.func11, Tryz.ntmps11
          go_wp2_with (first
      | (go_at_call 29; with_reducible refine (CA.out _ (by go_grown)).mono ?_; rintro e w1 ⟨rfl, hb⟩
         have B0' : Blk w1 w.heap.size #[.int .i64 k, .int .i64 n, .int .i64 s, .string t, .bool b] 24 := ((Blk.here rfl (by simp)).alloc _).below hb (by simp <;> omega)
         have B1' : Blk w1 (w.heap.size + 1) #[.int .i64 k2, .int .i64 n2, .int .i64 s2, .string t2, .bool b2] 24 := (Blk.here rfl (by simp)).below hb (by simp <;> omega)
         have hw1 : Below w.heap.size w w1 := Below.trans (by go_grown) (hb.mono (by simp <;> omega))
         have B0 := B0'
         have kB0 : w.heap.size < w1.heap.size := B0.lt
         obtain ⟨B00, B01, B02, B03, B04⟩ := B0.five.1
         have B1 := B1'
         have kB1 : (w.heap.size + 1) < w1.heap.size := B1.lt
         obtain ⟨B10, B11, B12, B13, B14⟩ := B1.five.1
         clear B0' B1'
         clear hb)
      | (go_at_call 13; with_reducible refine (RA.out _).mono ?_; rintro e w2 ⟨rfl, hb⟩
         have B0' := B0.below hb B0.lt
         have B1' := B1.below hb B1.lt
         have hw2 : Below w.heap.size w w2 := hw1.trans (hb.mono hw1.size)
         clear B0 B1 kB0 B00 B01 B02 B03 B04 kB1 B10 B11 B12 B13 B14
         have B0 := B0'
         have kB0 : w.heap.size < w2.heap.size := B0.lt
         obtain ⟨B00, B01, B02, B03, B04⟩ := B0.five.1
         have B1 := B1'
         have kB1 : (w.heap.size + 1) < w2.heap.size := B1.lt
         obtain ⟨B10, B11, B12, B13, B14⟩ := B1.five.1
         clear B0' B1'
         clear hb)
      | (go_at_call 13; with_reducible refine (RB.out _).mono ?_; rintro e w3 ⟨rfl, hb⟩
         have B0' := B0.below hb B0.lt
         have B1' := B1.below hb B1.lt
         have hw3 : Below w.heap.size w w3 := hw2.trans (hb.mono hw2.size)
         clear B0 B1 kB0 B00 B01 B02 B03 B04 kB1 B10 B11 B12 B13 B14
         have B0 := B0'
         have kB0 : w.heap.size < w3.heap.size := B0.lt
         obtain ⟨B00, B01, B02, B03, B04⟩ := B0.five.1
         have B1 := B1'
         have kB1 : (w.heap.size + 1) < w3.heap.size := B1.lt
         obtain ⟨B10, B11, B12, B13, B14⟩ := B1.five.1
         clear B0' B1'
         clear hb)
      | (go_at_call 35; with_reducible refine (CO.out _).mono ?_; rintro e w4 ⟨rfl, hb⟩
         have B0' := B0.below hb B0.lt
         have B1' := B1.below hb B1.lt
         have hw4 : Below w.heap.size w w4 := hw3.trans (hb.mono hw3.size)
         clear B0 B1 kB0 B00 B01 B02 B03 B04 kB1 B10 B11 B12 B13 B14
         have B0 := B0'
         have kB0 : w.heap.size < w4.heap.size := B0.lt
         obtain ⟨B00, B01, B02, B03, B04⟩ := B0.five.1
         have B1 := B1'
         have kB1 : (w.heap.size + 1) < w4.heap.size := B1.lt
         obtain ⟨B10, B11, B12, B13, B14⟩ := B1.five.1
         clear B0' B1'
         clear hb)
      | (go_at_call 37; with_reducible refine (CR.out _).mono ?_; rintro e w5 ⟨rfl, hb⟩
         have B0' := B0.below hb B0.lt
         have B1' := B1.below hb B1.lt
         have hw5 : Below w.heap.size w w5 := hw4.trans (hb.mono hw4.size)
         clear B0 B1 kB0 B00 B01 B02 B03 B04 kB1 B10 B11 B12 B13 B14
         have B0 := B0'
         have kB0 : w.heap.size < w5.heap.size := B0.lt
         obtain ⟨B00, B01, B02, B03, B04⟩ := B0.five.1
         have B1 := B1'
         have kB1 : (w.heap.size + 1) < w5.heap.size := B1.lt
         obtain ⟨B10, B11, B12, B13, B14⟩ := B1.five.1
         clear B0' B1'
         clear hb)
      | (go_at_call 36; with_reducible refine (CV.out _).mono ?_; rintro e w6 ⟨rfl, hb⟩
         have B0' := B0.below hb B0.lt
         have B1' := B1.below hb B1.lt
         have hw6 : Below w.heap.size w w6 := hw5.trans (hb.mono hw5.size)
         clear B0 B1 kB0 B00 B01 B02 B03 B04 kB1 B10 B11 B12 B13 B14
         have B0 := B0'
         have kB0 : w.heap.size < w6.heap.size := B0.lt
         obtain ⟨B00, B01, B02, B03, B04⟩ := B0.five.1
         have B1 := B1'
         have kB1 : (w.heap.size + 1) < w6.heap.size := B1.lt
         obtain ⟨B10, B11, B12, B13, B14⟩ := B1.five.1
         clear B0' B1'
         clear hb)
      | (go_at_call 38; with_reducible refine (CE.out _).mono ?_; rintro e w7 ⟨rfl, hb⟩
         have B0' := B0.below hb B0.lt
         have B1' := B1.below hb B1.lt
         have hw7 : Below w.heap.size w w7 := hw6.trans (hb.mono hw6.size)
         clear B0 B1 kB0 B00 B01 B02 B03 B04 kB1 B10 B11 B12 B13 B14
         have B0 := B0'
         have kB0 : w.heap.size < w7.heap.size := B0.lt
         obtain ⟨B00, B01, B02, B03, B04⟩ := B0.five.1
         have B1 := B1'
         have kB1 : (w.heap.size + 1) < w7.heap.size := B1.lt
         obtain ⟨B10, B11, B12, B13, B14⟩ := B1.five.1
         clear B0' B1'
         clear hb)
      | fail)
          refine bodyPost_ret (v := .bool true) (by simp [results, Tryz.results11, go_sem]) rfl ⟨rfl, ?_⟩
          first | exact hw7 | go_grown

theorem values_walk (op : Int) (a c : At) (ht : a.t.size ≤ 1100000) (hu : c.t.size ≤ 1100000) (m : Int) (w : World) (hL : Laid m w) : Calls Tryz.prog 11 #[.int .i64 op, AV a, AV c] w fun e w' => e = .returned (.bool true) ∧ Below w.heap.size w w' := by
  have hA := fun w' (hb : Below w.heap.size w w') => awake4_any m w' (hL.on hb)
  have hR := fun w' => rright_any a.k a.n a.s a.t a.b (by omega) w'
  have hS := fun w' => rright_any c.k c.n c.s c.t c.b (by omega) w'
  cases h : (rightA a && rightA c)
  · exact values_early op _ _ _ _ _ _ _ _ _ _ hA _ _ hR hS h
  · simp only [Bool.and_eq_true] at h
    have ha := rightA_RA h.1
    have hc := rightA_RA h.2
    rw [show rightA ⟨a.k, a.n, a.s, a.t, a.b⟩ = true from h.1] at hR
    rw [show rightA ⟨c.k, c.n, c.s, c.t, c.b⟩ = true from h.2] at hS
    refine values_main op _ _ _ _ _ _ _ _ _ _ hA hR hS (orderF a c).1 (orderF a c).2 (fun w' => order_any a c ha hc w') (fun w' => rorder_any a c ha hc w') (fun w' => ?_) (fun w' => equal_any a c ha hc w') (order_vals a c)
    have h := value_any op a c ha hc w'
    unfold valueF at h
    split at h
    · rename_i h1
      rw [h1]
      exact h
    · rename_i h1
      rw [show (decide (op < 13) || decide (18 < op)) = false by simpa using h1]
      exact h
end Go.Proofs.YtaoobajokhcimaaGreatDoor

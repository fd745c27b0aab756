/- Comparing two values, the program's way and the document's at numbers (out of the texts of the layer of comparisons). -/
import Derived.Test.YtfagfkfcokmclaaGreatDoorZMgB
import Derived.Test.YtfagfkfcokmclaaGreatDoorZAtJ
import Derived.Test.YtfagfkfcokmclaaGreatDoorZWaI
import Derived.Test.YtfagfkfcokmclaaGreatDoorZShf
import Derived.Deep.RegionHeld3
import Derived.Lib.QuietBelow
import Derived.BigQuiet
set_option linter.unusedSimpArgs false
set_option linter.unusedVariables false
set_option linter.constructorNameAsVariable false
namespace Go.Proofs.YtfagfkfcokmclaaGreatDoor
open Go.RowKit Go.Sort

theorem num_is (k n s : Int) (t : ByteArray) (b : Bool) (x y : Int) (h : numN ⟨k, n, s, t, b⟩ = (x, y)) (w : World) : Calls Tryz.prog 82 #[.agg #[.int .i64 k, .int .i64 n, .int .i64 s, .string t, .bool b]] w fun e w' =>
    e = .returned (.agg #[.int .i64 x, .int .i64 y]) ∧ Below w.heap.size w w' := by
  have := num_any k n s t b w
  rw [h] at this
  exact this
theorem istext_any (k n s : Int) (t : ByteArray) (b : Bool) (w : World) : Calls Tryz.prog 145 #[.agg #[.int .i64 k, .int .i64 n, .int .i64 s, .string t, .bool b]] w fun e w' => e = .returned (.bool (k == 3 || k == 5)) ∧ Below w.heap.size w w' := by
  cases e1 : (k == 3)
  all_goals
    go_enter Tryz.func145, Tryz.ntmps145
    go_wp2_with fail
    go_returns
    exact ⟨by simp [e1], by go_grown⟩
theorem ccomp_any (t u : ByteArray) (w : World) : Calls Tryz.prog 73 #[.string t, .string u] w fun e w' => e = .returned (.int .i64 (strC t u)) ∧ w = w' := by
  have CC := Lib.hid (fun w => Tryz.strings_Compare t u w)
  rw [show Lib.compareBytes t.data.toList u.data.toList = strC t u from rfl] at CC
  generalize strC t u = c at *
  go_enter Tryz.func73, Tryz.ntmps73
  go_wp2_with (go_at_call 128; with_reducible refine (CC.out _).mono ?_; rintro e w1 ⟨rfl, rfl⟩)
  go_ret
  exact ⟨rfl, rfl⟩
set_option maxRecDepth 100000 in
set_option maxHeartbeats 1000000 in
theorem order_1 (k n s : Int) (t : ByteArray) (b : Bool) (k2 n2 s2 : Int) (t2 : ByteArray) (b2 : Bool) (ha : ∀ w', Calls Tryz.prog 131 #[.agg #[.int .i64 k, .int .i64 n, .int .i64 s, .string t, .bool b]] w' fun e w'' => e = .returned (.bool true) ∧ Below w'.heap.size w' w'') (hb : ∀ w', Calls Tryz.prog 131 #[.agg #[.int .i64 k2, .int .i64 n2, .int .i64 s2, .string t2, .bool b2]] w' fun e w'' => e = .returned (.bool true) ∧ Below w'.heap.size w' w'') (hm : ∀ w', Calls Tryz.prog 82 #[.agg #[.int .i64 k, .int .i64 n, .int .i64 s, .string t, .bool b]] w' fun e w'' => e = .returned (.agg #[.int .i64 n, .int .i64 s]) ∧ Below w'.heap.size w' w'') (hp : ∀ w', Calls Tryz.prog 82 #[.agg #[.int .i64 k2, .int .i64 n2, .int .i64 s2, .string t2, .bool b2]] w' fun e w'' => e = .returned (.agg #[.int .i64 n2, .int .i64 s2]) ∧ Below w'.heap.size w' w'') (c : Int) (hc : ∀ w', Calls Tryz.prog 144 #[.agg #[.int .i64 n, .int .i64 s], .agg #[.int .i64 n2, .int .i64 s2]] w' fun e w'' => e = .returned (.int .i64 c) ∧ Below w'.heap.size w' w'') (w : World) : Calls Tryz.prog 87 #[.agg #[.int .i64 k, .int .i64 n, .int .i64 s, .string t, .bool b], .agg #[.int .i64 k2, .int .i64 n2, .int .i64 s2, .string t2, .bool b2]] w fun e w' => e = .returned (.tuple #[.int .i64 c, .int .i64 0]) ∧ Below w.heap.size w w' := by
  have CA := Lib.hid ha
  have CB := Lib.hid hb
  have MA := Lib.hid hm
  have MB := Lib.hid hp
  have CC := Lib.hid hc
  clear ha hb hm hp hc
  go_enter Tryz.func87, Tryz.ntmps87
  go_wp2_with (first
      | (go_at_call 131; with_reducible refine (CA.out _).mono ?_; rintro e w1 ⟨rfl, hb⟩
         have B0' : Blk w1 w.heap.size #[.int .i64 k, .int .i64 n, .int .i64 s, .string t, .bool b] 24 := ((Blk.here rfl (by simp)).alloc _).below hb (by simp <;> omega)
         have B1' : Blk w1 (w.heap.size + 1) #[.int .i64 k2, .int .i64 n2, .int .i64 s2, .string t2, .bool b2] 24 := (Blk.here rfl (by simp)).below hb (by simp <;> omega)
         have hw1 : Below w.heap.size w w1 := Below.trans (by go_grown) (hb.mono (by simp <;> omega))
         have B0 := B0'
         have kB0 : w.heap.size < w1.heap.size := B0.lt
         obtain ⟨B00, B01, B02, B03, B04⟩ := B0.five.1
         have B1 := B1'
         have kB1 : (w.heap.size + 1) < w1.heap.size := B1.lt
         obtain ⟨B10, B11, B12, B13, B14⟩ := B1.five.1
         clear B0' B1'
         clear hb)
      | (go_at_call 131; with_reducible refine (CB.out _).mono ?_; rintro e w2 ⟨rfl, hb⟩
         have B0' := B0.below hb B0.lt
         have B1' := B1.below hb B1.lt
         have hw2 : Below w.heap.size w w2 := hw1.trans (hb.mono hw1.size)
         clear B0 B1 kB0 B00 B01 B02 B03 B04 kB1 B10 B11 B12 B13 B14
         have B0 := B0'
         have kB0 : w.heap.size < w2.heap.size := B0.lt
         obtain ⟨B00, B01, B02, B03, B04⟩ := B0.five.1
         have B1 := B1'
         have kB1 : (w.heap.size + 1) < w2.heap.size := B1.lt
         obtain ⟨B10, B11, B12, B13, B14⟩ := B1.five.1
         clear B0' B1'
         clear hb))
  have r0 := cell_regrown B00
  have u0 := cell_regrown B10
  have r1 := cell_regrown B01
  have u1 := cell_regrown B11
  have r2 := cell_regrown B02
  have u2 := cell_regrown B12
  have r3 := cell_regrown B03
  have u3 := cell_regrown B13
  have r4 := cell_regrown B04
  have u4 := cell_regrown B14
  refine wp_region_quiet_below (by kernel_rfl) (by kernel_rfl) ?_
  repeat (go_big_quiet_step (first
    | (go_at_call 82; first | (with_reducible exact Calls.regrown_of (MA.out _)) | (with_reducible exact Calls.regrown_of (MB.out _)))
    | (go_at_call 144; with_reducible exact Calls.regrown_of (CC.out _))))
  refine wpQuiet_nil ?_
  intro _ hw'
  obtain ⟨⟨dq, osq⟩, hw''⟩ := hw'
  subst hw''
  have hgq := below_regrown w2 dq osq
  generalize grow (redrawn w2 dq) osq = wq at *
  have hw5 := hw2.trans (hgq.mono hw2.size)
  go_wp2_with fail
  go_ret2
  exact ⟨rfl, hw5⟩

set_option maxRecDepth 100000 in
set_option maxHeartbeats 1000000 in
theorem order_2 (k n s : Int) (t : ByteArray) (b : Bool) (k2 n2 s2 : Int) (t2 : ByteArray) (b2 : Bool) (ha : ∀ w', Calls Tryz.prog 131 #[.agg #[.int .i64 k, .int .i64 n, .int .i64 s, .string t, .bool b]] w' fun e w'' => e = .returned (.bool true) ∧ Below w'.heap.size w' w'') (hb : ∀ w', Calls Tryz.prog 131 #[.agg #[.int .i64 k2, .int .i64 n2, .int .i64 s2, .string t2, .bool b2]] w' fun e w'' => e = .returned (.bool false) ∧ Below w'.heap.size w' w'') (hc : ∀ w', Calls Tryz.prog 145 #[.agg #[.int .i64 k, .int .i64 n, .int .i64 s, .string t, .bool b]] w' fun e w'' => e = .returned (.bool false) ∧ Below w'.heap.size w' w'') (e4 : (k == 4) = false) (w : World) : Calls Tryz.prog 87 #[.agg #[.int .i64 k, .int .i64 n, .int .i64 s, .string t, .bool b], .agg #[.int .i64 k2, .int .i64 n2, .int .i64 s2, .string t2, .bool b2]] w fun e w' => e = .returned (.tuple #[.int .i64 0, .int .i64 44]) ∧ Below w.heap.size w w' := by
  have CA := Lib.hid ha
  have CB := Lib.hid hb
  have TA := Lib.hid hc
  clear ha hb hc
  go_enter Tryz.func87, Tryz.ntmps87
  go_wp2_with (first
      | (go_at_call 131; with_reducible refine (CA.out _).mono ?_; rintro e w1 ⟨rfl, hb⟩
         have B0' : Blk w1 w.heap.size #[.int .i64 k, .int .i64 n, .int .i64 s, .string t, .bool b] 24 := ((Blk.here rfl (by simp)).alloc _).below hb (by simp <;> omega)
         have B1' : Blk w1 (w.heap.size + 1) #[.int .i64 k2, .int .i64 n2, .int .i64 s2, .string t2, .bool b2] 24 := (Blk.here rfl (by simp)).below hb (by simp <;> omega)
         have hw1 : Below w.heap.size w w1 := Below.trans (by go_grown) (hb.mono (by simp <;> omega))
         have B0 := B0'
         have kB0 : w.heap.size < w1.heap.size := B0.lt
         obtain ⟨B00, B01, B02, B03, B04⟩ := B0.five.1
         have B1 := B1'
         have kB1 : (w.heap.size + 1) < w1.heap.size := B1.lt
         obtain ⟨B10, B11, B12, B13, B14⟩ := B1.five.1
         clear B0' B1'
         clear hb)
      | (go_at_call 131; with_reducible refine (CB.out _).mono ?_; rintro e w2 ⟨rfl, hb⟩
         have B0' := B0.below hb B0.lt
         have B1' := B1.below hb B1.lt
         have hw2 : Below w.heap.size w w2 := hw1.trans (hb.mono hw1.size)
         clear B0 B1 kB0 B00 B01 B02 B03 B04 kB1 B10 B11 B12 B13 B14
         have B0 := B0'
         have kB0 : w.heap.size < w2.heap.size := B0.lt
         obtain ⟨B00, B01, B02, B03, B04⟩ := B0.five.1
         have B1 := B1'
         have kB1 : (w.heap.size + 1) < w2.heap.size := B1.lt
         obtain ⟨B10, B11, B12, B13, B14⟩ := B1.five.1
         clear B0' B1'
         clear hb)
      | (go_at_call 145; with_reducible refine (TA.out _).mono ?_; rintro e w3 ⟨rfl, hb⟩
         have B0' := B0.below hb B0.lt
         have B1' := B1.below hb B1.lt
         have hw3 : Below w.heap.size w w3 := hw2.trans (hb.mono hw2.size)
         clear B0 B1 kB0 B00 B01 B02 B03 B04 kB1 B10 B11 B12 B13 B14
         have B0 := B0'
         have kB0 : w.heap.size < w3.heap.size := B0.lt
         obtain ⟨B00, B01, B02, B03, B04⟩ := B0.five.1
         have B1 := B1'
         have kB1 : (w.heap.size + 1) < w3.heap.size := B1.lt
         obtain ⟨B10, B11, B12, B13, B14⟩ := B1.five.1
         clear B0' B1'
         clear hb))
  go_ret2
  exact ⟨rfl, hw3⟩

set_option maxRecDepth 100000 in
set_option maxHeartbeats 1000000 in
theorem order_3 (k n s : Int) (t : ByteArray) (b : Bool) (k2 n2 s2 : Int) (t2 : ByteArray) (b2 : Bool) (ha : ∀ w', Calls Tryz.prog 131 #[.agg #[.int .i64 k, .int .i64 n, .int .i64 s, .string t, .bool b]] w' fun e w'' => e = .returned (.bool false) ∧ Below w'.heap.size w' w'') (hc : ∀ w', Calls Tryz.prog 145 #[.agg #[.int .i64 k, .int .i64 n, .int .i64 s, .string t, .bool b]] w' fun e w'' => e = .returned (.bool true) ∧ Below w'.heap.size w' w'') (hd : ∀ w', Calls Tryz.prog 145 #[.agg #[.int .i64 k2, .int .i64 n2, .int .i64 s2, .string t2, .bool b2]] w' fun e w'' => e = .returned (.bool true) ∧ Below w'.heap.size w' w'') (c : Int) (he : ∀ w', Calls Tryz.prog 73 #[.string t, .string t2] w' fun e w'' => e = .returned (.int .i64 c) ∧ Below w'.heap.size w' w'') (w : World) : Calls Tryz.prog 87 #[.agg #[.int .i64 k, .int .i64 n, .int .i64 s, .string t, .bool b], .agg #[.int .i64 k2, .int .i64 n2, .int .i64 s2, .string t2, .bool b2]] w fun e w' => e = .returned (.tuple #[.int .i64 c, .int .i64 0]) ∧ Below w.heap.size w w' := by
  have CA := Lib.hid ha
  have TA := Lib.hid hc
  have TB := Lib.hid hd
  have CC := Lib.hid he
  clear ha hc hd he
  go_enter Tryz.func87, Tryz.ntmps87
  go_wp2_with (first
      | (go_at_call 131; with_reducible refine (CA.out _).mono ?_; rintro e w1 ⟨rfl, hb⟩
         have B0' : Blk w1 w.heap.size #[.int .i64 k, .int .i64 n, .int .i64 s, .string t, .bool b] 24 := ((Blk.here rfl (by simp)).alloc _).below hb (by simp <;> omega)
         have B1' : Blk w1 (w.heap.size + 1) #[.int .i64 k2, .int .i64 n2, .int .i64 s2, .string t2, .bool b2] 24 := (Blk.here rfl (by simp)).below hb (by simp <;> omega)
         have hw1 : Below w.heap.size w w1 := Below.trans (by go_grown) (hb.mono (by simp <;> omega))
         have B0 := B0'
         have kB0 : w.heap.size < w1.heap.size := B0.lt
         obtain ⟨B00, B01, B02, B03, B04⟩ := B0.five.1
         have B1 := B1'
         have kB1 : (w.heap.size + 1) < w1.heap.size := B1.lt
         obtain ⟨B10, B11, B12, B13, B14⟩ := B1.five.1
         clear B0' B1'
         clear hb)
      | (go_at_call 145; with_reducible refine (TA.out _).mono ?_; rintro e w2 ⟨rfl, hb⟩
         have B0' := B0.below hb B0.lt
         have B1' := B1.below hb B1.lt
         have hw2 : Below w.heap.size w w2 := hw1.trans (hb.mono hw1.size)
         clear B0 B1 kB0 B00 B01 B02 B03 B04 kB1 B10 B11 B12 B13 B14
         have B0 := B0'
         have kB0 : w.heap.size < w2.heap.size := B0.lt
         obtain ⟨B00, B01, B02, B03, B04⟩ := B0.five.1
         have B1 := B1'
         have kB1 : (w.heap.size + 1) < w2.heap.size := B1.lt
         obtain ⟨B10, B11, B12, B13, B14⟩ := B1.five.1
         clear B0' B1'
         clear hb)
      | (go_at_call 145; with_reducible refine (TB.out _).mono ?_; rintro e w3 ⟨rfl, hb⟩
         have B0' := B0.below hb B0.lt
         have B1' := B1.below hb B1.lt
         have hw3 : Below w.heap.size w w3 := hw2.trans (hb.mono hw2.size)
         clear B0 B1 kB0 B00 B01 B02 B03 B04 kB1 B10 B11 B12 B13 B14
         have B0 := B0'
         have kB0 : w.heap.size < w3.heap.size := B0.lt
         obtain ⟨B00, B01, B02, B03, B04⟩ := B0.five.1
         have B1 := B1'
         have kB1 : (w.heap.size + 1) < w3.heap.size := B1.lt
         obtain ⟨B10, B11, B12, B13, B14⟩ := B1.five.1
         clear B0' B1'
         clear hb)
      | (go_at_call 73; with_reducible refine (CC.out _).mono ?_; rintro e w4 ⟨rfl, hb⟩
         have B0' := B0.below hb B0.lt
         have B1' := B1.below hb B1.lt
         have hw4 : Below w.heap.size w w4 := hw3.trans (hb.mono hw3.size)
         clear B0 B1 kB0 B00 B01 B02 B03 B04 kB1 B10 B11 B12 B13 B14
         have B0 := B0'
         have kB0 : w.heap.size < w4.heap.size := B0.lt
         obtain ⟨B00, B01, B02, B03, B04⟩ := B0.five.1
         have B1 := B1'
         have kB1 : (w.heap.size + 1) < w4.heap.size := B1.lt
         obtain ⟨B10, B11, B12, B13, B14⟩ := B1.five.1
         clear B0' B1'
         clear hb))
  go_ret2
  exact ⟨rfl, hw4⟩

set_option maxRecDepth 100000 in
set_option maxHeartbeats 1000000 in
theorem order_4 (k n s : Int) (t : ByteArray) (b : Bool) (k2 n2 s2 : Int) (t2 : ByteArray) (b2 : Bool) (ha : ∀ w', Calls Tryz.prog 131 #[.agg #[.int .i64 k, .int .i64 n, .int .i64 s, .string t, .bool b]] w' fun e w'' => e = .returned (.bool false) ∧ Below w'.heap.size w' w'') (hc : ∀ w', Calls Tryz.prog 145 #[.agg #[.int .i64 k, .int .i64 n, .int .i64 s, .string t, .bool b]] w' fun e w'' => e = .returned (.bool true) ∧ Below w'.heap.size w' w'') (hd : ∀ w', Calls Tryz.prog 145 #[.agg #[.int .i64 k2, .int .i64 n2, .int .i64 s2, .string t2, .bool b2]] w' fun e w'' => e = .returned (.bool false) ∧ Below w'.heap.size w' w'') (e4 : (k == 4) = false) (w : World) : Calls Tryz.prog 87 #[.agg #[.int .i64 k, .int .i64 n, .int .i64 s, .string t, .bool b], .agg #[.int .i64 k2, .int .i64 n2, .int .i64 s2, .string t2, .bool b2]] w fun e w' => e = .returned (.tuple #[.int .i64 0, .int .i64 44]) ∧ Below w.heap.size w w' := by
  have CA := Lib.hid ha
  have TA := Lib.hid hc
  have TB := Lib.hid hd
  clear ha hc hd
  go_enter Tryz.func87, Tryz.ntmps87
  go_wp2_with (first
      | (go_at_call 131; with_reducible refine (CA.out _).mono ?_; rintro e w1 ⟨rfl, hb⟩
         have B0' : Blk w1 w.heap.size #[.int .i64 k, .int .i64 n, .int .i64 s, .string t, .bool b] 24 := ((Blk.here rfl (by simp)).alloc _).below hb (by simp <;> omega)
         have B1' : Blk w1 (w.heap.size + 1) #[.int .i64 k2, .int .i64 n2, .int .i64 s2, .string t2, .bool b2] 24 := (Blk.here rfl (by simp)).below hb (by simp <;> omega)
         have hw1 : Below w.heap.size w w1 := Below.trans (by go_grown) (hb.mono (by simp <;> omega))
         have B0 := B0'
         have kB0 : w.heap.size < w1.heap.size := B0.lt
         obtain ⟨B00, B01, B02, B03, B04⟩ := B0.five.1
         have B1 := B1'
         have kB1 : (w.heap.size + 1) < w1.heap.size := B1.lt
         obtain ⟨B10, B11, B12, B13, B14⟩ := B1.five.1
         clear B0' B1'
         clear hb)
      | (go_at_call 145; with_reducible refine (TA.out _).mono ?_; rintro e w2 ⟨rfl, hb⟩
         have B0' := B0.below hb B0.lt
         have B1' := B1.below hb B1.lt
         have hw2 : Below w.heap.size w w2 := hw1.trans (hb.mono hw1.size)
         clear B0 B1 kB0 B00 B01 B02 B03 B04 kB1 B10 B11 B12 B13 B14
         have B0 := B0'
         have kB0 : w.heap.size < w2.heap.size := B0.lt
         obtain ⟨B00, B01, B02, B03, B04⟩ := B0.five.1
         have B1 := B1'
         have kB1 : (w.heap.size + 1) < w2.heap.size := B1.lt
         obtain ⟨B10, B11, B12, B13, B14⟩ := B1.five.1
         clear B0' B1'
         clear hb)
      | (go_at_call 145; with_reducible refine (TB.out _).mono ?_; rintro e w3 ⟨rfl, hb⟩
         have B0' := B0.below hb B0.lt
         have B1' := B1.below hb B1.lt
         have hw3 : Below w.heap.size w w3 := hw2.trans (hb.mono hw2.size)
         clear B0 B1 kB0 B00 B01 B02 B03 B04 kB1 B10 B11 B12 B13 B14
         have B0 := B0'
         have kB0 : w.heap.size < w3.heap.size := B0.lt
         obtain ⟨B00, B01, B02, B03, B04⟩ := B0.five.1
         have B1 := B1'
         have kB1 : (w.heap.size + 1) < w3.heap.size := B1.lt
         obtain ⟨B10, B11, B12, B13, B14⟩ := B1.five.1
         clear B0' B1'
         clear hb))
  go_ret2
  exact ⟨rfl, hw3⟩

set_option maxRecDepth 100000 in
set_option maxHeartbeats 1000000 in
theorem order_6 (k n s : Int) (t : ByteArray) (b : Bool) (k2 n2 s2 : Int) (t2 : ByteArray) (b2 : Bool) (ha : ∀ w', Calls Tryz.prog 131 #[.agg #[.int .i64 k, .int .i64 n, .int .i64 s, .string t, .bool b]] w' fun e w'' => e = .returned (.bool false) ∧ Below w'.heap.size w' w'') (hc : ∀ w', Calls Tryz.prog 145 #[.agg #[.int .i64 k, .int .i64 n, .int .i64 s, .string t, .bool b]] w' fun e w'' => e = .returned (.bool false) ∧ Below w'.heap.size w' w'') (e5 : (k2 == 4) = false) (w : World) : Calls Tryz.prog 87 #[.agg #[.int .i64 k, .int .i64 n, .int .i64 s, .string t, .bool b], .agg #[.int .i64 k2, .int .i64 n2, .int .i64 s2, .string t2, .bool b2]] w fun e w' => e = .returned (.tuple #[.int .i64 0, .int .i64 44]) ∧ Below w.heap.size w w' := by
  have CA := Lib.hid ha
  have TA := Lib.hid hc
  clear ha hc
  cases e4 : (k == 4)
  all_goals
    go_enter Tryz.func87, Tryz.ntmps87
    go_wp2_with (first
      | (go_at_call 131; with_reducible refine (CA.out _).mono ?_; rintro e w1 ⟨rfl, hb⟩
         have B0' : Blk w1 w.heap.size #[.int .i64 k, .int .i64 n, .int .i64 s, .string t, .bool b] 24 := ((Blk.here rfl (by simp)).alloc _).below hb (by simp <;> omega)
         have B1' : Blk w1 (w.heap.size + 1) #[.int .i64 k2, .int .i64 n2, .int .i64 s2, .string t2, .bool b2] 24 := (Blk.here rfl (by simp)).below hb (by simp <;> omega)
         have hw1 : Below w.heap.size w w1 := Below.trans (by go_grown) (hb.mono (by simp <;> omega))
         have B0 := B0'
         have kB0 : w.heap.size < w1.heap.size := B0.lt
         obtain ⟨B00, B01, B02, B03, B04⟩ := B0.five.1
         have B1 := B1'
         have kB1 : (w.heap.size + 1) < w1.heap.size := B1.lt
         obtain ⟨B10, B11, B12, B13, B14⟩ := B1.five.1
         clear B0' B1'
         clear hb)
      | (go_at_call 145; with_reducible refine (TA.out _).mono ?_; rintro e w2 ⟨rfl, hb⟩
         have B0' := B0.below hb B0.lt
         have B1' := B1.below hb B1.lt
         have hw2 : Below w.heap.size w w2 := hw1.trans (hb.mono hw1.size)
         clear B0 B1 kB0 B00 B01 B02 B03 B04 kB1 B10 B11 B12 B13 B14
         have B0 := B0'
         have kB0 : w.heap.size < w2.heap.size := B0.lt
         obtain ⟨B00, B01, B02, B03, B04⟩ := B0.five.1
         have B1 := B1'
         have kB1 : (w.heap.size + 1) < w2.heap.size := B1.lt
         obtain ⟨B10, B11, B12, B13, B14⟩ := B1.five.1
         clear B0' B1'
         clear hb))
    go_ret2
    exact ⟨rfl, hw2⟩

set_option maxRecDepth 100000 in
set_option maxHeartbeats 1000000 in
theorem order_5 (n s : Int) (t : ByteArray) (b : Bool) (n2 s2 : Int) (t2 : ByteArray) (b2 : Bool) (ha : ∀ w', Calls Tryz.prog 131 #[.agg #[.int .i64 4, .int .i64 n, .int .i64 s, .string t, .bool b]] w' fun e w'' => e = .returned (.bool false) ∧ Below w'.heap.size w' w'') (hc : ∀ w', Calls Tryz.prog 145 #[.agg #[.int .i64 4, .int .i64 n, .int .i64 s, .string t, .bool b]] w' fun e w'' => e = .returned (.bool false) ∧ Below w'.heap.size w' w'') (w : World) : Calls Tryz.prog 87 #[.agg #[.int .i64 4, .int .i64 n, .int .i64 s, .string t, .bool b], .agg #[.int .i64 4, .int .i64 n2, .int .i64 s2, .string t2, .bool b2]] w fun e w' => e = .returned (.tuple #[.int .i64 (boolC b b2), .int .i64 0]) ∧ Below w.heap.size w w' := by
  have CA := Lib.hid ha
  have TA := Lib.hid hc
  clear ha hc
  cases b <;> cases b2
  all_goals
    go_enter Tryz.func87, Tryz.ntmps87
    go_wp2_with (first
      | (go_at_call 131; with_reducible refine (CA.out _).mono ?_; rintro e w1 ⟨rfl, hb⟩
         have B0' : Blk w1 w.heap.size #[.int .i64 4, .int .i64 n, .int .i64 s, .string t, .bool _] 24 := ((Blk.here rfl (by simp)).alloc _).below hb (by simp <;> omega)
         have B1' : Blk w1 (w.heap.size + 1) #[.int .i64 4, .int .i64 n2, .int .i64 s2, .string t2, .bool _] 24 := (Blk.here rfl (by simp)).below hb (by simp <;> omega)
         have hw1 : Below w.heap.size w w1 := Below.trans (by go_grown) (hb.mono (by simp <;> omega))
         have B0 := B0'
         have kB0 : w.heap.size < w1.heap.size := B0.lt
         obtain ⟨B00, B01, B02, B03, B04⟩ := B0.five.1
         have B1 := B1'
         have kB1 : (w.heap.size + 1) < w1.heap.size := B1.lt
         obtain ⟨B10, B11, B12, B13, B14⟩ := B1.five.1
         clear B0' B1'
         clear hb)
      | (go_at_call 145; with_reducible refine (TA.out _).mono ?_; rintro e w2 ⟨rfl, hb⟩
         have B0' := B0.below hb B0.lt
         have B1' := B1.below hb B1.lt
         have hw2 : Below w.heap.size w w2 := hw1.trans (hb.mono hw1.size)
         clear B0 B1 kB0 B00 B01 B02 B03 B04 kB1 B10 B11 B12 B13 B14
         have B0 := B0'
         have kB0 : w.heap.size < w2.heap.size := B0.lt
         obtain ⟨B00, B01, B02, B03, B04⟩ := B0.five.1
         have B1 := B1'
         have kB1 : (w.heap.size + 1) < w2.heap.size := B1.lt
         obtain ⟨B10, B11, B12, B13, B14⟩ := B1.five.1
         clear B0' B1'
         clear hb))
    go_ret2
    exact ⟨rfl, hw2⟩

theorem RA_Rt {a : At} (h : RA a) (hn : (a.k == 1 || a.k == 2) = true) : Rt a.n a.s := by
  cases h with
  | int n h => exact h
  | dec n s h => exact h
  | str t h => cases hn
  | bool b => cases hn
  | raw t h => cases hn
theorem numRA {a : At} (h : RA a) : numN a = (a.n, a.s) := by
  cases h <;> rfl
theorem order_any (a c : At) (ha : RA a) (hc : RA c) (w : World) : Calls Tryz.prog 87 #[AV a, AV c] w fun e w' => e = .returned (.tuple #[.int .i64 (orderF a c).1, .int .i64 (orderF a c).2]) ∧ Below w.heap.size w w' := by
  have ka := RA_k ha
  have kc := RA_k hc
  have na := fun w' => numeric_any a.k a.n a.s a.t a.b w'
  have nc := fun w' => numeric_any c.k c.n c.s c.t c.b w'
  have ta := fun w' => istext_any a.k a.n a.s a.t a.b w'
  have tc := fun w' => istext_any c.k c.n c.s c.t c.b w'
  have ra := RA_Rt ha
  have rc := RA_Rt hc
  have ma := fun w' => num_is a.k a.n a.s a.t a.b a.n a.s (numRA ha) w'
  have mc := fun w' => num_is c.k c.n c.s c.t c.b c.n c.s (numRA hc) w'
  obtain ⟨k, n, s, t, b⟩ := a
  obtain ⟨k2, n2, s2, t2, b2⟩ := c
  simp only at *
  unfold orderF
  simp only
  cases e1 : (k == 1 || k == 2)
  · rw [e1] at na
    simp only [Bool.false_and, Bool.false_eq_true, if_false]
    cases e2 : (k == 3 || k == 5)
    · rw [e2] at ta
      have hk : k = 4 := by simp at e1 e2; omega
      subst hk
      simp only [Bool.false_and, Bool.false_eq_true, if_false]
      cases e3 : (k2 == 4)
      · simp only [Bool.and_false, Bool.false_eq_true, if_false]
        exact order_6 _ _ _ _ _ _ _ _ _ _ na ta e3 w
      · obtain rfl : k2 = 4 := by simpa using e3
        exact order_5 _ _ _ _ _ _ _ _ na ta w
    · rw [e2] at ta
      have h4 : (k == 4) = false := by simp at e2 ⊢; omega
      cases e3 : (k2 == 3 || k2 == 5)
      · rw [e3] at tc
        simp only [Bool.and_false, Bool.false_eq_true, if_false, h4, Bool.false_and]
        exact order_4 _ _ _ _ _ _ _ _ _ _ na ta tc h4 w
      · rw [e3] at tc
        simp only [Bool.and_self, if_true]
        exact order_3 _ _ _ _ _ _ _ _ _ _ na ta tc (strC t t2) (fun w' => (ccomp_any t t2 w').mono fun e w'' ⟨h1, h2⟩ => ⟨h1, h2 ▸ Below.refl _ _⟩) w
  · rw [e1] at na
    have h4 : (k == 4) = false := by simp at e1 ⊢; omega
    have h3 : (k == 3 || k == 5) = false := by simp at e1 ⊢; omega
    rw [h3] at ta
    cases e3 : (k2 == 1 || k2 == 2)
    · rw [e3] at nc
      simp only [Bool.and_false, Bool.false_eq_true, if_false, h3, h4, Bool.false_and]
      exact order_2 _ _ _ _ _ _ _ _ _ _ na nc ta h4 w
    · rw [e3] at nc
      simp only [Bool.and_self, if_true]
      have r1 := ra e1
      have r2 := rc e3
      obtain ⟨s', rfl⟩ : ∃ s' : Nat, s = (s' : Int) := ⟨s.toNat, by have := r1.s0; omega⟩
      obtain ⟨u', rfl⟩ : ∃ u' : Nat, s2 = (u' : Int) := ⟨s2.toNat, by have := r2.s0; omega⟩
      exact order_1 _ _ _ _ _ _ _ _ _ _ na nc ma mc (cmpF n s' n2 u') (fun w' => cmp_any n n2 s' u' r1 r2 w') w


set_option maxRecDepth 100000 in
theorem equal_is (k n s : Int) (t : ByteArray) (b : Bool) (k2 n2 s2 : Int) (t2 : ByteArray) (b2 : Bool) (o r : Int) (hO : ∀ w', Calls Tryz.prog 87 #[.agg #[.int .i64 k, .int .i64 n, .int .i64 s, .string t, .bool b], .agg #[.int .i64 k2, .int .i64 n2, .int .i64 s2, .string t2, .bool b2]] w' fun e w'' => e = .returned (.tuple #[.int .i64 o, .int .i64 r]) ∧ Below w'.heap.size w' w'') (w : World) : Calls Tryz.prog 96 #[.agg #[.int .i64 k, .int .i64 n, .int .i64 s, .string t, .bool b], .agg #[.int .i64 k2, .int .i64 n2, .int .i64 s2, .string t2, .bool b2]] w fun e w' => e = .returned (.bool (r == 0 && o == 0)) ∧ Below w.heap.size w w' := by
  have CO := Lib.hid hO
  clear hO
  cases e1 : (r == 0)
  all_goals
    go_enter Tryz.func96, Tryz.ntmps96
    go_wp2_with (first
      | (go_at_call 87; with_reducible refine (CO.out _).mono ?_; rintro e w1 ⟨rfl, hb⟩
         have B0' : Blk w1 w.heap.size #[.int .i64 k, .int .i64 n, .int .i64 s, .string t, .bool b] 24 := ((Blk.here rfl (by simp)).alloc _).below hb (by simp <;> omega)
         have B1' : Blk w1 (w.heap.size + 1) #[.int .i64 k2, .int .i64 n2, .int .i64 s2, .string t2, .bool b2] 24 := (Blk.here rfl (by simp)).below hb (by simp <;> omega)
         have hw1 : Below w.heap.size w w1 := Below.trans (by go_grown) (hb.mono (by simp <;> omega))
         have B0 := B0'
         have kB0 : w.heap.size < w1.heap.size := B0.lt
         obtain ⟨B00, B01, B02, B03, B04⟩ := B0.five.1
         have B1 := B1'
         have kB1 : (w.heap.size + 1) < w1.heap.size := B1.lt
         obtain ⟨B10, B11, B12, B13, B14⟩ := B1.five.1
         clear B0' B1'
         clear hb))
    go_returns
    exact ⟨by simp [e1], hw1⟩
theorem equal_any (a c : At) (ha : RA a) (hc : RA c) (w : World) : Calls Tryz.prog 96 #[AV a, AV c] w fun e w' => e = .returned (.bool ((orderF a c).2 == 0 && (orderF a c).1 == 0)) ∧ Below w.heap.size w w' :=
  equal_is _ _ _ _ _ _ _ _ _ _ _ _ (fun w' => order_any a c ha hc w') w
theorem group_any (k n s : Int) (t : ByteArray) (b : Bool) (w : World) : Calls Tryz.prog 21 #[.agg #[.int .i64 k, .int .i64 n, .int .i64 s, .string t, .bool b]] w fun e w' => e = .returned (.int .i64 (groupF ⟨k, n, s, t, b⟩)) ∧ Below w.heap.size w w' := by
  unfold groupF
  cases e1 : (k == 1)
  · cases e2 : (k == 2)
    · cases e3 : (k == 3)
      · cases e5 : (k == 5)
        all_goals
          go_enter Tryz.func21, Tryz.ntmps21
          go_wp2_with fail
          go_returns
          exact ⟨by simp [e1, e2, e3, e5], by go_grown⟩
      · 
        go_enter Tryz.func21, Tryz.ntmps21
        go_wp2_with fail
        go_returns
        exact ⟨by simp [e1, e2, e3], by go_grown⟩
    · 
      go_enter Tryz.func21, Tryz.ntmps21
      go_wp2_with fail
      go_returns
      exact ⟨by simp [e1, e2], by go_grown⟩
  · 
    go_enter Tryz.func21, Tryz.ntmps21
    go_wp2_with fail
    go_returns
    exact ⟨by simp [e1], by go_grown⟩
set_option maxRecDepth 100000 in
set_option maxHeartbeats 1000000 in
theorem rorder_num (k n s : Int) (t : ByteArray) (b : Bool) (k2 n2 s2 : Int) (t2 : ByteArray) (b2 : Bool) (ga gb : Int) (ha : ∀ w', Calls Tryz.prog 21 #[.agg #[.int .i64 k, .int .i64 n, .int .i64 s, .string t, .bool b]] w' fun e w'' => e = .returned (.int .i64 ga) ∧ Below w'.heap.size w' w'') (hb : ∀ w', Calls Tryz.prog 21 #[.agg #[.int .i64 k2, .int .i64 n2, .int .i64 s2, .string t2, .bool b2]] w' fun e w'' => e = .returned (.int .i64 gb) ∧ Below w'.heap.size w' w'') (e1 : (ga == gb) = true) (e2 : (ga == 1) = true) (c : Int) (hc : ∀ w', Calls Tryz.prog 22 #[.int .i64 n, .int .i64 s, .int .i64 n2, .int .i64 s2] w' fun e w'' => e = .returned (.int .i64 c) ∧ Below w'.heap.size w' w'') (w : World) : Calls Tryz.prog 11 #[.agg #[.int .i64 k, .int .i64 n, .int .i64 s, .string t, .bool b], .agg #[.int .i64 k2, .int .i64 n2, .int .i64 s2, .string t2, .bool b2]] w fun e w' => e = .returned (.tuple #[.int .i64 c, .int .i64 0]) ∧ Below w.heap.size w w' := by
  have CA := Lib.hid ha
  have CB := Lib.hid hb
  have CC := Lib.hid hc
  clear ha hb hc
  go_enter Tryz.func11, Tryz.ntmps11
  go_wp2_with fail
  have B0 : Blk ((w.alloc (.cells #[.int .i64 k, .int .i64 n, .int .i64 s, .string t, .bool b] 24)).alloc (.cells #[.int .i64 k2, .int .i64 n2, .int .i64 s2, .string t2, .bool b2] 24)) w.heap.size #[.int .i64 k, .int .i64 n, .int .i64 s, .string t, .bool b] 24 := Blk.alloc (Blk.here rfl rfl) _
  have B1 : Blk ((w.alloc (.cells #[.int .i64 k, .int .i64 n, .int .i64 s, .string t, .bool b] 24)).alloc (.cells #[.int .i64 k2, .int .i64 n2, .int .i64 s2, .string t2, .bool b2] 24)) (w.heap.size + 1) #[.int .i64 k2, .int .i64 n2, .int .i64 s2, .string t2, .bool b2] 24 := Blk.here rfl (by simp)
  have hw0 : Below w.heap.size w ((w.alloc (.cells #[.int .i64 k, .int .i64 n, .int .i64 s, .string t, .bool b] 24)).alloc (.cells #[.int .i64 k2, .int .i64 n2, .int .i64 s2, .string t2, .bool b2] 24)) := by go_grown
  generalize (w.alloc (.cells #[.int .i64 k, .int .i64 n, .int .i64 s, .string t, .bool b] 24)).alloc (.cells #[.int .i64 k2, .int .i64 n2, .int .i64 s2, .string t2, .bool b2] 24) = W at *
  obtain ⟨⟨B00, B01, B02, B03, B04⟩, -⟩ := B0.five
  obtain ⟨⟨B10, B11, B12, B13, B14⟩, -⟩ := B1.five
  have r0 := cell_regrown B00
  have u0 := cell_regrown B10
  have r1 := cell_regrown B01
  have u1 := cell_regrown B11
  have r2 := cell_regrown B02
  have u2 := cell_regrown B12
  have r3 := cell_regrown B03
  have u3 := cell_regrown B13
  have r4 := cell_regrown B04
  have u4 := cell_regrown B14
  refine wp_region_quiet_below (by kernel_rfl) (by kernel_rfl) ?_
  repeat (go_big_quiet_step (first
    | (go_at_call 21; first | (with_reducible exact Calls.regrown_of (CA.out _)) | (with_reducible exact Calls.regrown_of (CB.out _)))))
  refine wpQuiet_nil ?_
  intro _ hw'
  obtain ⟨⟨dq, osq⟩, hw''⟩ := hw'
  subst hw''
  have hgq := below_regrown W dq osq
  have D0 := B0.below hgq B0.lt
  have D1 := B1.below hgq B1.lt
  generalize grow (redrawn W dq) osq = w1 at *
  have hw1 := hw0.trans (hgq.mono hw0.size)
  clear B0 B1 B00 B01 B02 B03 B04 B10 B11 B12 B13 B14 r0 r1 r2 r3 r4 u0 u1 u2 u3 u4 hgq hw0
  have B0 := D0
  have B1 := D1
  clear D0 D1
  have kB0 := B0.lt
  have kB1 := B1.lt
  obtain ⟨B00, B01, B02, B03, B04⟩ := B0.five.1
  obtain ⟨B10, B11, B12, B13, B14⟩ := B1.five.1
  have e3 : (ga != gb) = false := by unfold bne; rw [e1]; rfl
  go_wp2_with (first
      | (go_at_call 21; with_reducible refine (CA.out _).mono ?_; rintro e w2 ⟨rfl, hb⟩
         have B0' := B0.below hb B0.lt
         have B1' := B1.below hb B1.lt
         have hw2 : Below w.heap.size w w2 := hw1.trans (hb.mono hw1.size)
         clear B0 B1 kB0 B00 B01 B02 B03 B04 kB1 B10 B11 B12 B13 B14
         have B0 := B0'
         have kB0 : w.heap.size < w2.heap.size := B0.lt
         obtain ⟨B00, B01, B02, B03, B04⟩ := B0.five.1
         have B1 := B1'
         have kB1 : (w.heap.size + 1) < w2.heap.size := B1.lt
         obtain ⟨B10, B11, B12, B13, B14⟩ := B1.five.1
         clear B0' B1'
         clear hb)
      | (go_at_call 22; with_reducible refine (CC.out _).mono ?_; rintro e w3 ⟨rfl, hb⟩
         have B0' := B0.below hb B0.lt
         have B1' := B1.below hb B1.lt
         have hw3 : Below w.heap.size w w3 := hw2.trans (hb.mono hw2.size)
         clear B0 B1 kB0 B00 B01 B02 B03 B04 kB1 B10 B11 B12 B13 B14
         have B0 := B0'
         have kB0 : w.heap.size < w3.heap.size := B0.lt
         obtain ⟨B00, B01, B02, B03, B04⟩ := B0.five.1
         have B1 := B1'
         have kB1 : (w.heap.size + 1) < w3.heap.size := B1.lt
         obtain ⟨B10, B11, B12, B13, B14⟩ := B1.five.1
         clear B0' B1'
         clear hb))
  go_ret2
  exact ⟨rfl, hw3⟩
end Go.Proofs.YtfagfkfcokmclaaGreatDoor

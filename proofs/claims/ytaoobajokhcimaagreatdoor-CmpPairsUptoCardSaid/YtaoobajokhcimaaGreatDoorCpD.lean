/- The document's comparison of two values: walks. -/
import Derived.Test.YtaoobajokhcimaaGreatDoorCpC
import Derived.Test.YtaoobajokhcimaaGreatDoorMgE
import Derived.Test.YtaoobajokhcimaaGreatDoorAtZ
set_option linter.unusedSimpArgs false
set_option linter.unusedVariables false
set_option linter.constructorNameAsVariable false
namespace Go.Proofs.YtaoobajokhcimaaGreatDoor
open Go.RowKit Go.Sort

theorem group_any (k n s : Int) (t : ByteArray) (b : Bool) (w : World) : Calls Tryz.prog 61 #[.agg #[.int .i64 k, .int .i64 n, .int .i64 s, .string t, .bool b]] w fun e w' => e = .returned (.int .i64 (groupF ⟨k, n, s, t, b⟩)) ∧ Below w.heap.size w w' := by
  unfold groupF
  cases e1 : (k == 1)
  · cases e2 : (k == 2)
    · cases e3 : (k == 3)
      · cases e5 : (k == 5)
        all_goals
          go_enter Tryz.func61, Tryz.ntmps61
          go_wp2_with fail
          go_returns
          exact ⟨by simp [e1, e2, e3, e5], by go_grown⟩
      · 
        go_enter Tryz.func61, Tryz.ntmps61
        go_wp2_with fail
        go_returns
        exact ⟨by simp [e1, e2, e3], by go_grown⟩
    · 
      go_enter Tryz.func61, Tryz.ntmps61
      go_wp2_with fail
      go_returns
      exact ⟨by simp [e1, e2], by go_grown⟩
  · 
    go_enter Tryz.func61, Tryz.ntmps61
    go_wp2_with fail
    go_returns
    exact ⟨by simp [e1], by go_grown⟩
/-- Whether a comparison holds, as the document has it. -/
def hold2 (kd n : Int) : Bool := if kd == 0 then n == 0 else if kd == 1 then n != 0 else if kd == 2 then n == -1 else if kd == 3 then n != 1 else if kd == 4 then n == 1 else n != -1
theorem rholds_any (kd n : Int) (w : World) : Calls Tryz.prog 39 #[.int .i64 kd, .int .i64 n] w fun e w' => e = .returned (.bool (hold2 kd n)) ∧ w = w' := by
  cases e1 : (kd == 0)
  · cases e2 : (kd == 1)
    · cases e3 : (kd == 2)
      · cases e4 : (kd == 3)
        · cases e5 : (kd == 4)
          all_goals
            go_enter Tryz.func39, Tryz.ntmps39
            go_wp2
            go_ret
            exact ⟨by unfold hold2; simp [e1, e2, e3, e4, e5], rfl⟩
        · 
          go_enter Tryz.func39, Tryz.ntmps39
          go_wp2
          go_ret
          exact ⟨by unfold hold2; simp [e1, e2, e3, e4], rfl⟩
      · 
        go_enter Tryz.func39, Tryz.ntmps39
        go_wp2
        go_ret
        exact ⟨by unfold hold2; simp [e1, e2, e3], rfl⟩
    · 
      go_enter Tryz.func39, Tryz.ntmps39
      go_wp2
      go_ret
      exact ⟨by unfold hold2; simp [e1, e2], rfl⟩
  · 
    go_enter Tryz.func39, Tryz.ntmps39
    go_wp2
    go_ret
    exact ⟨by unfold hold2; simp [e1], rfl⟩
theorem hold_eq {op n : Int} (h : (decide (op < 13) || decide (18 < op)) = false) (hn : n = -1 ∨ n = 0 ∨ n = 1) : hold2 (op - 13) n = holdF op n := by
  simp only [Bool.or_eq_false_iff, decide_eq_false_iff_not] at h
  have h6 : op = 13 ∨ op = 14 ∨ op = 15 ∨ op = 16 ∨ op = 17 ∨ op = 18 := by omega
  rcases h6 with rfl | rfl | rfl | rfl | rfl | rfl <;> rcases hn with rfl | rfl | rfl <;> decide
set_option maxRecDepth 100000 in
set_option maxHeartbeats 1000000 in
theorem rorder_no (k n s : Int) (t : ByteArray) (b : Bool) (k2 n2 s2 : Int) (t2 : ByteArray) (b2 : Bool) (ga gb : Int) (ha : ∀ w', Calls Tryz.prog 61 #[.agg #[.int .i64 k, .int .i64 n, .int .i64 s, .string t, .bool b]] w' fun e w'' => e = .returned (.int .i64 ga) ∧ Below w'.heap.size w' w'') (hb : ∀ w', Calls Tryz.prog 61 #[.agg #[.int .i64 k2, .int .i64 n2, .int .i64 s2, .string t2, .bool b2]] w' fun e w'' => e = .returned (.int .i64 gb) ∧ Below w'.heap.size w' w'') (e1 : (ga == gb) = false) (w : World) : Calls Tryz.prog 37 #[.agg #[.int .i64 k, .int .i64 n, .int .i64 s, .string t, .bool b], .agg #[.int .i64 k2, .int .i64 n2, .int .i64 s2, .string t2, .bool b2]] w fun e w' => e = .returned (.tuple #[.int .i64 0, .int .i64 44]) ∧ Below w.heap.size w w' := by
  have CA := Lib.hid ha
  have CB := Lib.hid hb
  clear ha hb
  go_enter Tryz.func37, Tryz.ntmps37
  go_wp2_with fail
  have B0 : Blk ((w.alloc (.cells #[.int .i64 k, .int .i64 n, .int .i64 s, .string t, .bool b] 24)).alloc (.cells #[.int .i64 k2, .int .i64 n2, .int .i64 s2, .string t2, .bool b2] 24)) w.heap.size #[.int .i64 k, .int .i64 n, .int .i64 s, .string t, .bool b] 24 := Blk.alloc (Blk.here rfl rfl) _
  have B1 : Blk ((w.alloc (.cells #[.int .i64 k, .int .i64 n, .int .i64 s, .string t, .bool b] 24)).alloc (.cells #[.int .i64 k2, .int .i64 n2, .int .i64 s2, .string t2, .bool b2] 24)) (w.heap.size + 1) #[.int .i64 k2, .int .i64 n2, .int .i64 s2, .string t2, .bool b2] 24 := Blk.here rfl (by simp)
  have hw0 : Below w.heap.size w ((w.alloc (.cells #[.int .i64 k, .int .i64 n, .int .i64 s, .string t, .bool b] 24)).alloc (.cells #[.int .i64 k2, .int .i64 n2, .int .i64 s2, .string t2, .bool b2] 24)) := by go_grown
  generalize (w.alloc (.cells #[.int .i64 k, .int .i64 n, .int .i64 s, .string t, .bool b] 24)).alloc (.cells #[.int .i64 k2, .int .i64 n2, .int .i64 s2, .string t2, .bool b2] 24) = W at *
  obtain ⟨⟨B00, B01, B02, B03, B04⟩, -⟩ := B0.five
  obtain ⟨⟨B10, B11, B12, B13, B14⟩, -⟩ := B1.five
  have r0 := cell_regrown B00
  have u0 := cell_regrown B10
  have r1 := cell_regrown B01
  have u1 := cell_regrown B11
  have r2 := cell_regrown B02
  have u2 := cell_regrown B12
  have r3 := cell_regrown B03
  have u3 := cell_regrown B13
  have r4 := cell_regrown B04
  have u4 := cell_regrown B14
  refine wp_region_quiet_below (by kernel_rfl) (by kernel_rfl) ?_
  repeat (go_big_quiet_step (first
    | (go_at_call 61; first | (with_reducible exact Calls.regrown_of (CA.out _)) | (with_reducible exact Calls.regrown_of (CB.out _)))))
  refine wpQuiet_nil ?_
  intro _ hw'
  obtain ⟨⟨dq, osq⟩, hw''⟩ := hw'
  subst hw''
  have hgq := below_regrown W dq osq
  have D0 := B0.below hgq B0.lt
  have D1 := B1.below hgq B1.lt
  generalize grow (redrawn W dq) osq = w1 at *
  have hw1 := hw0.trans (hgq.mono hw0.size)
  clear B0 B1 B00 B01 B02 B03 B04 B10 B11 B12 B13 B14 r0 r1 r2 r3 r4 u0 u1 u2 u3 u4 hgq hw0
  have B0 := D0
  have B1 := D1
  clear D0 D1
  have kB0 := B0.lt
  have kB1 := B1.lt
  obtain ⟨B00, B01, B02, B03, B04⟩ := B0.five.1
  obtain ⟨B10, B11, B12, B13, B14⟩ := B1.five.1
  have e2 : (ga != gb) = true := by unfold bne; rw [e1]; rfl
  go_wp2_with fail
  go_ret2
  exact ⟨rfl, hw1⟩
set_option maxRecDepth 100000 in
set_option maxHeartbeats 1000000 in
theorem rorder_num (k n s : Int) (t : ByteArray) (b : Bool) (k2 n2 s2 : Int) (t2 : ByteArray) (b2 : Bool) (ga gb : Int) (ha : ∀ w', Calls Tryz.prog 61 #[.agg #[.int .i64 k, .int .i64 n, .int .i64 s, .string t, .bool b]] w' fun e w'' => e = .returned (.int .i64 ga) ∧ Below w'.heap.size w' w'') (hb : ∀ w', Calls Tryz.prog 61 #[.agg #[.int .i64 k2, .int .i64 n2, .int .i64 s2, .string t2, .bool b2]] w' fun e w'' => e = .returned (.int .i64 gb) ∧ Below w'.heap.size w' w'') (e1 : (ga == gb) = true) (e2 : (ga == 1) = true) (c : Int) (hc : ∀ w', Calls Tryz.prog 65 #[.int .i64 n, .int .i64 s, .int .i64 n2, .int .i64 s2] w' fun e w'' => e = .returned (.int .i64 c) ∧ Below w'.heap.size w' w'') (w : World) : Calls Tryz.prog 37 #[.agg #[.int .i64 k, .int .i64 n, .int .i64 s, .string t, .bool b], .agg #[.int .i64 k2, .int .i64 n2, .int .i64 s2, .string t2, .bool b2]] w fun e w' => e = .returned (.tuple #[.int .i64 c, .int .i64 0]) ∧ Below w.heap.size w w' := by
  have CA := Lib.hid ha
  have CB := Lib.hid hb
  have CC := Lib.hid hc
  clear ha hb hc
  go_enter Tryz.func37, Tryz.ntmps37
  go_wp2_with fail
  have B0 : Blk ((w.alloc (.cells #[.int .i64 k, .int .i64 n, .int .i64 s, .string t, .bool b] 24)).alloc (.cells #[.int .i64 k2, .int .i64 n2, .int .i64 s2, .string t2, .bool b2] 24)) w.heap.size #[.int .i64 k, .int .i64 n, .int .i64 s, .string t, .bool b] 24 := Blk.alloc (Blk.here rfl rfl) _
  have B1 : Blk ((w.alloc (.cells #[.int .i64 k, .int .i64 n, .int .i64 s, .string t, .bool b] 24)).alloc (.cells #[.int .i64 k2, .int .i64 n2, .int .i64 s2, .string t2, .bool b2] 24)) (w.heap.size + 1) #[.int .i64 k2, .int .i64 n2, .int .i64 s2, .string t2, .bool b2] 24 := Blk.here rfl (by simp)
  have hw0 : Below w.heap.size w ((w.alloc (.cells #[.int .i64 k, .int .i64 n, .int .i64 s, .string t, .bool b] 24)).alloc (.cells #[.int .i64 k2, .int .i64 n2, .int .i64 s2, .string t2, .bool b2] 24)) := by go_grown
  generalize (w.alloc (.cells #[.int .i64 k, .int .i64 n, .int .i64 s, .string t, .bool b] 24)).alloc (.cells #[.int .i64 k2, .int .i64 n2, .int .i64 s2, .string t2, .bool b2] 24) = W at *
  obtain ⟨⟨B00, B01, B02, B03, B04⟩, -⟩ := B0.five
  obtain ⟨⟨B10, B11, B12, B13, B14⟩, -⟩ := B1.five
  have r0 := cell_regrown B00
  have u0 := cell_regrown B10
  have r1 := cell_regrown B01
  have u1 := cell_regrown B11
  have r2 := cell_regrown B02
  have u2 := cell_regrown B12
  have r3 := cell_regrown B03
  have u3 := cell_regrown B13
  have r4 := cell_regrown B04
  have u4 := cell_regrown B14
  refine wp_region_quiet_below (by kernel_rfl) (by kernel_rfl) ?_
  repeat (go_big_quiet_step (first
    | (go_at_call 61; first | (with_reducible exact Calls.regrown_of (CA.out _)) | (with_reducible exact Calls.regrown_of (CB.out _)))))
  refine wpQuiet_nil ?_
  intro _ hw'
  obtain ⟨⟨dq, osq⟩, hw''⟩ := hw'
  subst hw''
  have hgq := below_regrown W dq osq
  have D0 := B0.below hgq B0.lt
  have D1 := B1.below hgq B1.lt
  generalize grow (redrawn W dq) osq = w1 at *
  have hw1 := hw0.trans (hgq.mono hw0.size)
  clear B0 B1 B00 B01 B02 B03 B04 B10 B11 B12 B13 B14 r0 r1 r2 r3 r4 u0 u1 u2 u3 u4 hgq hw0
  have B0 := D0
  have B1 := D1
  clear D0 D1
  have kB0 := B0.lt
  have kB1 := B1.lt
  obtain ⟨B00, B01, B02, B03, B04⟩ := B0.five.1
  obtain ⟨B10, B11, B12, B13, B14⟩ := B1.five.1
  have e3 : (ga != gb) = false := by unfold bne; rw [e1]; rfl
  go_wp2_with (first
      | (go_at_call 61; with_reducible refine (CA.out _).mono ?_; rintro e w2 ⟨rfl, hb⟩
         have B0' := B0.below hb B0.lt
         have B1' := B1.below hb B1.lt
         have hw2 : Below w.heap.size w w2 := hw1.trans (hb.mono hw1.size)
         clear B0 B1 kB0 B00 B01 B02 B03 B04 kB1 B10 B11 B12 B13 B14
         have B0 := B0'
         have kB0 : w.heap.size < w2.heap.size := B0.lt
         obtain ⟨B00, B01, B02, B03, B04⟩ := B0.five.1
         have B1 := B1'
         have kB1 : (w.heap.size + 1) < w2.heap.size := B1.lt
         obtain ⟨B10, B11, B12, B13, B14⟩ := B1.five.1
         clear B0' B1'
         clear hb)
      | (go_at_call 65; with_reducible refine (CC.out _).mono ?_; rintro e w3 ⟨rfl, hb⟩
         have B0' := B0.below hb B0.lt
         have B1' := B1.below hb B1.lt
         have hw3 : Below w.heap.size w w3 := hw2.trans (hb.mono hw2.size)
         clear B0 B1 kB0 B00 B01 B02 B03 B04 kB1 B10 B11 B12 B13 B14
         have B0 := B0'
         have kB0 : w.heap.size < w3.heap.size := B0.lt
         obtain ⟨B00, B01, B02, B03, B04⟩ := B0.five.1
         have B1 := B1'
         have kB1 : (w.heap.size + 1) < w3.heap.size := B1.lt
         obtain ⟨B10, B11, B12, B13, B14⟩ := B1.five.1
         clear B0' B1'
         clear hb))
  go_ret2
  exact ⟨rfl, hw3⟩
set_option maxRecDepth 100000 in
set_option maxHeartbeats 1000000 in
theorem rorder_txt (k n s : Int) (t : ByteArray) (b : Bool) (k2 n2 s2 : Int) (t2 : ByteArray) (b2 : Bool) (ga gb : Int) (ha : ∀ w', Calls Tryz.prog 61 #[.agg #[.int .i64 k, .int .i64 n, .int .i64 s, .string t, .bool b]] w' fun e w'' => e = .returned (.int .i64 ga) ∧ Below w'.heap.size w' w'') (hb : ∀ w', Calls Tryz.prog 61 #[.agg #[.int .i64 k2, .int .i64 n2, .int .i64 s2, .string t2, .bool b2]] w' fun e w'' => e = .returned (.int .i64 gb) ∧ Below w'.heap.size w' w'') (e1 : (ga == gb) = true) (e2 : (ga == 1) = false) (u v : ByteArray) (hc : ∀ w', Calls Tryz.prog 26 #[.agg #[.int .i64 k, .int .i64 n, .int .i64 s, .string t, .bool b]] w' fun e w'' => e = .returned (.string u) ∧ Below w'.heap.size w' w'') (hd : ∀ w', Calls Tryz.prog 26 #[.agg #[.int .i64 k2, .int .i64 n2, .int .i64 s2, .string t2, .bool b2]] w' fun e w'' => e = .returned (.string v) ∧ Below w'.heap.size w' w'') (w : World) : Calls Tryz.prog 37 #[.agg #[.int .i64 k, .int .i64 n, .int .i64 s, .string t, .bool b], .agg #[.int .i64 k2, .int .i64 n2, .int .i64 s2, .string t2, .bool b2]] w fun e w' => e = .returned (.tuple #[.int .i64 (strC u v), .int .i64 0]) ∧ Below w.heap.size w w' := by
  have CA := Lib.hid ha
  have CB := Lib.hid hb
  have TA := Lib.hid hc
  have TB := Lib.hid hd
  clear ha hb hc hd
  obtain ⟨c, hcv⟩ : ∃ c, strC u v = c := ⟨_, rfl⟩
  rw [hcv]
  have HC := Lib.hid hcv
  clear hcv
  go_enter Tryz.func37, Tryz.ntmps37
  go_wp2_with fail
  have B0 : Blk ((w.alloc (.cells #[.int .i64 k, .int .i64 n, .int .i64 s, .string t, .bool b] 24)).alloc (.cells #[.int .i64 k2, .int .i64 n2, .int .i64 s2, .string t2, .bool b2] 24)) w.heap.size #[.int .i64 k, .int .i64 n, .int .i64 s, .string t, .bool b] 24 := Blk.alloc (Blk.here rfl rfl) _
  have B1 : Blk ((w.alloc (.cells #[.int .i64 k, .int .i64 n, .int .i64 s, .string t, .bool b] 24)).alloc (.cells #[.int .i64 k2, .int .i64 n2, .int .i64 s2, .string t2, .bool b2] 24)) (w.heap.size + 1) #[.int .i64 k2, .int .i64 n2, .int .i64 s2, .string t2, .bool b2] 24 := Blk.here rfl (by simp)
  have hw0 : Below w.heap.size w ((w.alloc (.cells #[.int .i64 k, .int .i64 n, .int .i64 s, .string t, .bool b] 24)).alloc (.cells #[.int .i64 k2, .int .i64 n2, .int .i64 s2, .string t2, .bool b2] 24)) := by go_grown
  generalize (w.alloc (.cells #[.int .i64 k, .int .i64 n, .int .i64 s, .string t, .bool b] 24)).alloc (.cells #[.int .i64 k2, .int .i64 n2, .int .i64 s2, .string t2, .bool b2] 24) = W at *
  obtain ⟨⟨B00, B01, B02, B03, B04⟩, -⟩ := B0.five
  obtain ⟨⟨B10, B11, B12, B13, B14⟩, -⟩ := B1.five
  have r0 := cell_regrown B00
  have u0 := cell_regrown B10
  have r1 := cell_regrown B01
  have u1 := cell_regrown B11
  have r2 := cell_regrown B02
  have u2 := cell_regrown B12
  have r3 := cell_regrown B03
  have u3 := cell_regrown B13
  have r4 := cell_regrown B04
  have u4 := cell_regrown B14
  refine wp_region_quiet_below (by kernel_rfl) (by kernel_rfl) ?_
  repeat (go_big_quiet_step (first
    | (go_at_call 61; first | (with_reducible exact Calls.regrown_of (CA.out _)) | (with_reducible exact Calls.regrown_of (CB.out _)))))
  refine wpQuiet_nil ?_
  intro _ hw'
  obtain ⟨⟨dq, osq⟩, hw''⟩ := hw'
  subst hw''
  have hgq := below_regrown W dq osq
  have D0 := B0.below hgq B0.lt
  have D1 := B1.below hgq B1.lt
  generalize grow (redrawn W dq) osq = w1 at *
  have hw1 := hw0.trans (hgq.mono hw0.size)
  clear B0 B1 B00 B01 B02 B03 B04 B10 B11 B12 B13 B14 r0 r1 r2 r3 r4 u0 u1 u2 u3 u4 hgq hw0
  have B0 := D0
  have B1 := D1
  clear D0 D1
  have kB0 := B0.lt
  have kB1 := B1.lt
  obtain ⟨B00, B01, B02, B03, B04⟩ := B0.five.1
  obtain ⟨B10, B11, B12, B13, B14⟩ := B1.five.1
  have e3 : (ga != gb) = false := by unfold bne; rw [e1]; rfl
  have l1 := less_cb u.toList v.toList
  have l2 := eq_cb u.toList v.toList
  have hc := cb_vals u.toList v.toList
  have hs : c = Lib.compareBytes u.toList v.toList := by rw [← HC.out]; unfold strC; rw [Lib.toList_data, Lib.toList_data]
  rw [← hs] at l1 l2 hc
  clear hs HC
  rcases hc with rfl | rfl | rfl
  all_goals
    simp only [show decide ((-1 : Int) < 0) = true from rfl, show decide ((0 : Int) < 0) = false from rfl, show decide ((1 : Int) < 0) = false from rfl, show decide ((-1 : Int) = 0) = false from rfl, show decide ((0 : Int) = 0) = true from rfl, show decide ((1 : Int) = 0) = false from rfl] at l1 l2
    go_wp2_with (first
      | (go_at_call 61; with_reducible refine (CA.out _).mono ?_; rintro e w2 ⟨rfl, hb⟩
         have B0' := B0.below hb B0.lt
         have B1' := B1.below hb B1.lt
         have hw2 : Below w.heap.size w w2 := hw1.trans (hb.mono hw1.size)
         clear B0 B1 kB0 B00 B01 B02 B03 B04 kB1 B10 B11 B12 B13 B14
         have B0 := B0'
         have kB0 : w.heap.size < w2.heap.size := B0.lt
         obtain ⟨B00, B01, B02, B03, B04⟩ := B0.five.1
         have B1 := B1'
         have kB1 : (w.heap.size + 1) < w2.heap.size := B1.lt
         obtain ⟨B10, B11, B12, B13, B14⟩ := B1.five.1
         clear B0' B1'
         clear hb)
      | (go_at_call 26; with_reducible refine (TA.out _).mono ?_; rintro e w3 ⟨rfl, hb⟩
         have B0' := B0.below hb B0.lt
         have B1' := B1.below hb B1.lt
         have hw3 : Below w.heap.size w w3 := hw2.trans (hb.mono hw2.size)
         clear B0 B1 kB0 B00 B01 B02 B03 B04 kB1 B10 B11 B12 B13 B14
         have B0 := B0'
         have kB0 : w.heap.size < w3.heap.size := B0.lt
         obtain ⟨B00, B01, B02, B03, B04⟩ := B0.five.1
         have B1 := B1'
         have kB1 : (w.heap.size + 1) < w3.heap.size := B1.lt
         obtain ⟨B10, B11, B12, B13, B14⟩ := B1.five.1
         clear B0' B1'
         clear hb)
      | (go_at_call 26; with_reducible refine (TB.out _).mono ?_; rintro e w4 ⟨rfl, hb⟩
         have B0' := B0.below hb B0.lt
         have B1' := B1.below hb B1.lt
         have hw4 : Below w.heap.size w w4 := hw3.trans (hb.mono hw3.size)
         clear B0 B1 kB0 B00 B01 B02 B03 B04 kB1 B10 B11 B12 B13 B14
         have B0 := B0'
         have kB0 : w.heap.size < w4.heap.size := B0.lt
         obtain ⟨B00, B01, B02, B03, B04⟩ := B0.five.1
         have B1 := B1'
         have kB1 : (w.heap.size + 1) < w4.heap.size := B1.lt
         obtain ⟨B10, B11, B12, B13, B14⟩ := B1.five.1
         clear B0' B1'
         clear hb))
    go_ret2
    exact ⟨rfl, hw4⟩
theorem rorder_any (a c : At) (ha : RA a) (hc : RA c) (w : World) : Calls Tryz.prog 37 #[AV a, AV c] w fun e w' => e = .returned (.tuple #[.int .i64 (orderF a c).1, .int .i64 (orderF a c).2]) ∧ Below w.heap.size w w' := by
  have ka := RA_k ha
  have kc := RA_k hc
  have ga := fun w' => group_any a.k a.n a.s a.t a.b w'
  have gc := fun w' => group_any c.k c.n c.s c.t c.b w'
  have ta := fun w' => rtext_any a ha w'
  have tc := fun w' => rtext_any c hc w'
  by_cases hg : groupF a = groupF c
  · by_cases h1 : groupF a = 1
    · have e1 : (a.k == 1 || a.k == 2) = true := by
        unfold groupF at h1
        split at h1
        · assumption
        · split at h1 <;> omega
      have e2 : (c.k == 1 || c.k == 2) = true := by
        rw [hg] at h1
        unfold groupF at h1
        split at h1
        · assumption
        · split at h1 <;> omega
      have r1 := RA_Rt ha e1
      have r2 := RA_Rt hc e2
      have ho : orderF a c = (cmpF a.n a.s c.n c.s, 0) := by unfold orderF; rw [e1, e2]; rfl
      rw [ho]
      obtain ⟨k, n, s, t, b⟩ := a
      obtain ⟨k2, n2, s2, t2, b2⟩ := c
      simp only at *
      obtain ⟨s', rfl⟩ : ∃ s' : Nat, s = (s' : Int) := ⟨s.toNat, by have := r1.s0; omega⟩
      obtain ⟨u', rfl⟩ : ∃ u' : Nat, s2 = (u' : Int) := ⟨s2.toNat, by have := r2.s0; omega⟩
      exact rorder_num _ _ _ _ _ _ _ _ _ _ _ _ ga gc (by simpa using hg) (by simpa using h1) _ (fun w' => rcmp_any n n2 s' u' r1 r2 w') w
    · have ho : orderF a c = (strC (textF a) (textF c), 0) := by
        cases ha <;> cases hc <;> first | (exfalso; exact h1 rfl) | rfl | (exfalso; exact absurd (show (2 : Int) = 1 from hg) (by decide)) | (exfalso; exact absurd (show (2 : Int) = 3 from hg) (by decide)) | (exfalso; exact absurd (show (3 : Int) = 1 from hg) (by decide)) | (exfalso; exact absurd (show (3 : Int) = 2 from hg) (by decide)) | skip
        rename_i b b'
        cases b <;> cases b' <;> decide +kernel
      rw [ho]
      exact rorder_txt _ _ _ _ _ _ _ _ _ _ _ _ ga gc (by simpa using hg) (by simpa using h1) _ _ ta tc w
  · have ho : orderF a c = (0, 44) := by
      cases ha <;> cases hc <;> first | rfl | (exfalso; exact hg rfl)
    rw [ho]
    exact rorder_no _ _ _ _ _ _ _ _ _ _ _ _ ga gc (by simpa using hg) w
end Go.Proofs.YtaoobajokhcimaaGreatDoor

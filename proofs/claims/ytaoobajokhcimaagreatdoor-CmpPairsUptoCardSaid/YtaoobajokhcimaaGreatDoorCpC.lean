/- Comparing two values: Value, Equal, beside, pair, Truth: walks. -/
import Derived.Test.YtaoobajokhcimaaGreatDoorCpB
set_option linter.unusedSimpArgs false
set_option linter.unusedVariables false
set_option linter.constructorNameAsVariable false
namespace Go.Proofs.YtaoobajokhcimaaGreatDoor
open Go.RowKit

set_option maxRecDepth 100000 in
theorem equal_is (k n s : Int) (t : ByteArray) (b : Bool) (k2 n2 s2 : Int) (t2 : ByteArray) (b2 : Bool) (o r : Int) (hO : ∀ w', Calls Tryz.prog 35 #[.agg #[.int .i64 k, .int .i64 n, .int .i64 s, .string t, .bool b], .agg #[.int .i64 k2, .int .i64 n2, .int .i64 s2, .string t2, .bool b2]] w' fun e w'' => e = .returned (.tuple #[.int .i64 o, .int .i64 r]) ∧ Below w'.heap.size w' w'') (w : World) : Calls Tryz.prog 38 #[.agg #[.int .i64 k, .int .i64 n, .int .i64 s, .string t, .bool b], .agg #[.int .i64 k2, .int .i64 n2, .int .i64 s2, .string t2, .bool b2]] w fun e w' => e = .returned (.bool (r == 0 && o == 0)) ∧ Below w.heap.size w w' := by
  have CO := Lib.hid hO
  clear hO
  cases e1 : (r == 0)
  all_goals
    go_enter Tryz.func38, Tryz.ntmps38
    go_wp2_with (first
      | (go_at_call 35; with_reducible refine (CO.out _).mono ?_; rintro e w1 ⟨rfl, hb⟩
         have B0' : Blk w1 w.heap.size #[.int .i64 k, .int .i64 n, .int .i64 s, .string t, .bool b] 24 := ((Blk.here rfl (by simp)).alloc _).below hb (by simp <;> omega)
         have B1' : Blk w1 (w.heap.size + 1) #[.int .i64 k2, .int .i64 n2, .int .i64 s2, .string t2, .bool b2] 24 := (Blk.here rfl (by simp)).below hb (by simp <;> omega)
         have hw1 : Below w.heap.size w w1 := Below.trans (by go_grown) (hb.mono (by simp <;> omega))
         have B0 := B0'
         have kB0 : w.heap.size < w1.heap.size := B0.lt
         obtain ⟨B00, B01, B02, B03, B04⟩ := B0.five.1
         have B1 := B1'
         have kB1 : (w.heap.size + 1) < w1.heap.size := B1.lt
         obtain ⟨B10, B11, B12, B13, B14⟩ := B1.five.1
         clear B0' B1'
         clear hb))
    go_returns
    exact ⟨by simp [e1], hw1⟩
theorem equal_any (a c : At) (ha : RA a) (hc : RA c) (w : World) : Calls Tryz.prog 38 #[AV a, AV c] w fun e w' => e = .returned (.bool ((orderF a c).2 == 0 && (orderF a c).1 == 0)) ∧ Below w.heap.size w w' :=
  equal_is _ _ _ _ _ _ _ _ _ _ _ _ (fun w' => order_any a c ha hc w') w
set_option maxRecDepth 100000 in
theorem value_out (op : Int) (k n s : Int) (t : ByteArray) (b : Bool) (k2 n2 s2 : Int) (t2 : ByteArray) (b2 : Bool) (h : (decide (op < 13) || decide (18 < op)) = true) (w : World) : Calls Tryz.prog 36 #[.int .i64 op, .agg #[.int .i64 k, .int .i64 n, .int .i64 s, .string t, .bool b], .agg #[.int .i64 k2, .int .i64 n2, .int .i64 s2, .string t2, .bool b2]] w fun e w' => e = .returned (.tuple #[.bool false, .int .i64 2]) ∧ Below w.heap.size w w' := by
  cases e1 : decide (op < 13)
  · rw [e1] at h
    have e2 : decide (18 < op) = true := h
    go_enter Tryz.func36, Tryz.ntmps36
    go_wp2_with fail
    go_ret2
    exact ⟨rfl, by go_grown⟩
  · 
    go_enter Tryz.func36, Tryz.ntmps36
    go_wp2_with fail
    go_ret2
    exact ⟨rfl, by go_grown⟩
set_option maxRecDepth 100000 in
theorem value_in (op : Int) (k n s : Int) (t : ByteArray) (b : Bool) (k2 n2 s2 : Int) (t2 : ByteArray) (b2 : Bool) (h : (decide (op < 13) || decide (18 < op)) = false) (o r : Int) (hO : ∀ w', Calls Tryz.prog 35 #[.agg #[.int .i64 k, .int .i64 n, .int .i64 s, .string t, .bool b], .agg #[.int .i64 k2, .int .i64 n2, .int .i64 s2, .string t2, .bool b2]] w' fun e w'' => e = .returned (.tuple #[.int .i64 o, .int .i64 r]) ∧ Below w'.heap.size w' w'') (w : World) : Calls Tryz.prog 36 #[.int .i64 op, .agg #[.int .i64 k, .int .i64 n, .int .i64 s, .string t, .bool b], .agg #[.int .i64 k2, .int .i64 n2, .int .i64 s2, .string t2, .bool b2]] w fun e w' => e = .returned (.tuple #[.bool (r == 0 && holdF op o), .int .i64 r]) ∧ Below w.heap.size w w' := by
  have CH := Lib.hid (fun w => holds_any op o w)
  have CO := Lib.hid hO
  clear hO
  simp only [Bool.or_eq_false_iff] at h
  obtain ⟨e1, e2⟩ := h
  generalize holdF op o = H at *
  cases e3 : (r == 0)
  all_goals
    go_enter Tryz.func36, Tryz.ntmps36
    go_wp2_with (first
      | (go_at_call 35; with_reducible refine (CO.out _).mono ?_; rintro e w1 ⟨rfl, hb⟩
         have B0' : Blk w1 w.heap.size #[.int .i64 k, .int .i64 n, .int .i64 s, .string t, .bool b] 24 := ((Blk.here rfl (by simp)).alloc _).below hb (by simp <;> omega)
         have B1' : Blk w1 (w.heap.size + 1) #[.int .i64 k2, .int .i64 n2, .int .i64 s2, .string t2, .bool b2] 24 := (Blk.here rfl (by simp)).below hb (by simp <;> omega)
         have hw1 : Below w.heap.size w w1 := Below.trans (by go_grown) (hb.mono (by simp <;> omega))
         have B0 := B0'
         have kB0 : w.heap.size < w1.heap.size := B0.lt
         obtain ⟨B00, B01, B02, B03, B04⟩ := B0.five.1
         have B1 := B1'
         have kB1 : (w.heap.size + 1) < w1.heap.size := B1.lt
         obtain ⟨B10, B11, B12, B13, B14⟩ := B1.five.1
         clear B0' B1'
         clear hb)
      | (go_at_call 64; with_reducible refine (CH.out _).mono ?_; rintro e w2 ⟨rfl, rfl⟩))
    go_ret2
    exact ⟨by simp [e3], hw1⟩
theorem value_any (op : Int) (a c : At) (ha : RA a) (hc : RA c) (w : World) : Calls Tryz.prog 36 #[.int .i64 op, AV a, AV c] w fun e w' => e = .returned (.tuple #[.bool (valueF op a c).1, .int .i64 (valueF op a c).2]) ∧ Below w.heap.size w w' := by
  unfold valueF
  cases h : (decide (op < 13) || decide (18 < op))
  · simp only [Bool.false_eq_true, if_false]
    exact value_in op _ _ _ _ _ _ _ _ _ _ h _ _ (fun w' => order_any a c ha hc w') w
  · simp only [if_true]
    exact value_out op _ _ _ _ _ _ _ _ _ _ h w
set_option maxRecDepth 100000 in
theorem beside_no (k n s : Int) (t : ByteArray) (b : Bool) (k2 n2 s2 : Int) (t2 : ByteArray) (b2 : Bool) (e1 : (k != 5) = true) (w : World) : Calls Tryz.prog 87 #[.agg #[.int .i64 k, .int .i64 n, .int .i64 s, .string t, .bool b], .agg #[.int .i64 k2, .int .i64 n2, .int .i64 s2, .string t2, .bool b2]] w fun e w' => e = .returned (.tuple #[.agg #[.int .i64 k, .int .i64 n, .int .i64 s, .string t, .bool b], .int .i64 0]) ∧ Below w.heap.size w w' := by
  go_enter Tryz.func87, Tryz.ntmps87
  go_wp2_with fail
  refine bodyPost_ret (v := .tuple #[.agg #[.int .i64 k, .int .i64 n, .int .i64 s, .string t, .bool b], .int .i64 0]) (by simp [results, Tryz.results87, go_sem] <;> first | done | rfl) rfl ⟨rfl, ?_⟩
  go_grown
set_option maxRecDepth 100000 in
theorem beside_num (n s : Int) (t : ByteArray) (b : Bool) (k2 n2 s2 : Int) (t2 : ByteArray) (b2 : Bool) {w : World} (hN : ∀ w', Calls Tryz.prog 20 #[.agg #[.int .i64 k2, .int .i64 n2, .int .i64 s2, .string t2, .bool b2]] w' fun e w'' => e = .returned (.bool true) ∧ Below w'.heap.size w' w'') (xk xn xs : Int) (xt : ByteArray) (xb : Bool) (r : Int) (hC : ∀ w', Below w.heap.size w w' → Calls Tryz.prog 14 #[.agg #[.int .i64 5, .int .i64 n, .int .i64 s, .string t, .bool b], .int .i64 2] w' fun e w'' => e = .returned (.tuple #[.agg #[.int .i64 xk, .int .i64 xn, .int .i64 xs, .string xt, .bool xb], .int .i64 r]) ∧ Below w'.heap.size w' w'') : Calls Tryz.prog 87 #[.agg #[.int .i64 5, .int .i64 n, .int .i64 s, .string t, .bool b], .agg #[.int .i64 k2, .int .i64 n2, .int .i64 s2, .string t2, .bool b2]] w fun e w' => e = .returned (.tuple #[.agg #[.int .i64 xk, .int .i64 xn, .int .i64 xs, .string xt, .bool xb], .int .i64 r]) ∧ Below w.heap.size w w' := by
  have CN := Lib.hid hN
  have CC := Lib.hid hC
  clear hN hC
  go_enter Tryz.func87, Tryz.ntmps87
  go_wp2_with (first
      | (go_at_call 20; with_reducible refine (CN.out _).mono ?_; rintro e w1 ⟨rfl, hb⟩
         have B0' : Blk w1 w.heap.size #[.int .i64 5, .int .i64 n, .int .i64 s, .string t, .bool b] 24 := (((Blk.here rfl (by simp)).alloc _).alloc _).below hb (by simp <;> omega)
         have B1' : Blk w1 (w.heap.size + 1) #[.int .i64 k2, .int .i64 n2, .int .i64 s2, .string t2, .bool b2] 24 := ((Blk.here rfl (by simp)).alloc _).below hb (by simp <;> omega)
         have B2' : Blk w1 (w.heap.size + 1 + 1) #[.int .i64 0, .int .i64 0, .int .i64 0, .string ⟨#[]⟩, .bool false] 24 := (Blk.here rfl (by simp)).below hb (by simp <;> omega)
         have hw1 : Below w.heap.size w w1 := Below.trans (by go_grown) (hb.mono (by simp <;> omega))
         have B0 := B0'
         have kB0 : w.heap.size < w1.heap.size := B0.lt
         obtain ⟨B00, B01, B02, B03, B04⟩ := B0.five.1
         have B1 := B1'
         have kB1 : (w.heap.size + 1) < w1.heap.size := B1.lt
         obtain ⟨B10, B11, B12, B13, B14⟩ := B1.five.1
         have B2 := B2'
         have kB2 : (w.heap.size + 1 + 1) < w1.heap.size := B2.lt
         obtain ⟨B20, B21, B22, B23, B24⟩ := B2.five.1
         obtain ⟨F20, F21, F22, F23, F24⟩ := B2.five.2
         clear B0' B1' B2'
         clear hb)
      | (go_at_call 14; with_reducible refine (CC.out _ hw1).mono ?_; rintro e w2 ⟨rfl, hb⟩
         have B0' := B0.below hb B0.lt
         have B1' := B1.below hb B1.lt
         have B2' := B2.below hb B2.lt
         have hw2 : Below w.heap.size w w2 := hw1.trans (hb.mono hw1.size)
         clear B0 B1 B2 kB0 B00 B01 B02 B03 B04 kB1 B10 B11 B12 B13 B14 kB2 B20 B21 B22 B23 B24
         have B0 := B0'
         have kB0 : w.heap.size < w2.heap.size := B0.lt
         obtain ⟨B00, B01, B02, B03, B04⟩ := B0.five.1
         have B1 := B1'
         have kB1 : (w.heap.size + 1) < w2.heap.size := B1.lt
         obtain ⟨B10, B11, B12, B13, B14⟩ := B1.five.1
         have B2 := B2'
         have kB2 : (w.heap.size + 1 + 1) < w2.heap.size := B2.lt
         obtain ⟨B20, B21, B22, B23, B24⟩ := B2.five.1
         obtain ⟨F20, F21, F22, F23, F24⟩ := B2.five.2
         clear B0' B1' B2'
         clear hb))
  refine bodyPost_ret (v := .tuple #[.agg #[.int .i64 xk, .int .i64 xn, .int .i64 xs, .string xt, .bool xb], .int .i64 r]) (by simp [results, Tryz.results87, go_sem, B20, B21, B22, B23, B24, F20, F21, F22, F23, F24, kB2, kB0, kB1] <;> first | done | rfl | exact ⟨rfl, rfl, rfl, rfl, rfl⟩ | exact ⟨rfl, rfl, rfl, rfl⟩) rfl ⟨rfl, ?_⟩
  go_grown
  all_goals first | exact hw2 | exact hw2.size

set_option maxRecDepth 100000 in
theorem beside_bool (n s : Int) (t : ByteArray) (b : Bool) (k2 n2 s2 : Int) (t2 : ByteArray) (b2 : Bool) {w : World} (hN : ∀ w', Calls Tryz.prog 20 #[.agg #[.int .i64 k2, .int .i64 n2, .int .i64 s2, .string t2, .bool b2]] w' fun e w'' => e = .returned (.bool false) ∧ Below w'.heap.size w' w'') (e4 : (k2 == 4) = true) (xk xn xs : Int) (xt : ByteArray) (xb : Bool) (r : Int) (hC : ∀ w', Below w.heap.size w w' → Calls Tryz.prog 14 #[.agg #[.int .i64 5, .int .i64 n, .int .i64 s, .string t, .bool b], .int .i64 4] w' fun e w'' => e = .returned (.tuple #[.agg #[.int .i64 xk, .int .i64 xn, .int .i64 xs, .string xt, .bool xb], .int .i64 r]) ∧ Below w'.heap.size w' w'') : Calls Tryz.prog 87 #[.agg #[.int .i64 5, .int .i64 n, .int .i64 s, .string t, .bool b], .agg #[.int .i64 k2, .int .i64 n2, .int .i64 s2, .string t2, .bool b2]] w fun e w' => e = .returned (.tuple #[.agg #[.int .i64 xk, .int .i64 xn, .int .i64 xs, .string xt, .bool xb], .int .i64 r]) ∧ Below w.heap.size w w' := by
  have CN := Lib.hid hN
  have CC := Lib.hid hC
  clear hN hC
  go_enter Tryz.func87, Tryz.ntmps87
  go_wp2_with (first
      | (go_at_call 20; with_reducible refine (CN.out _).mono ?_; rintro e w1 ⟨rfl, hb⟩
         have B0' : Blk w1 w.heap.size #[.int .i64 5, .int .i64 n, .int .i64 s, .string t, .bool b] 24 := (((Blk.here rfl (by simp)).alloc _).alloc _).below hb (by simp <;> omega)
         have B1' : Blk w1 (w.heap.size + 1) #[.int .i64 k2, .int .i64 n2, .int .i64 s2, .string t2, .bool b2] 24 := ((Blk.here rfl (by simp)).alloc _).below hb (by simp <;> omega)
         have B2' : Blk w1 (w.heap.size + 1 + 1) #[.int .i64 0, .int .i64 0, .int .i64 0, .string ⟨#[]⟩, .bool false] 24 := (Blk.here rfl (by simp)).below hb (by simp <;> omega)
         have hw1 : Below w.heap.size w w1 := Below.trans (by go_grown) (hb.mono (by simp <;> omega))
         have B0 := B0'
         have kB0 : w.heap.size < w1.heap.size := B0.lt
         obtain ⟨B00, B01, B02, B03, B04⟩ := B0.five.1
         have B1 := B1'
         have kB1 : (w.heap.size + 1) < w1.heap.size := B1.lt
         obtain ⟨B10, B11, B12, B13, B14⟩ := B1.five.1
         have B2 := B2'
         have kB2 : (w.heap.size + 1 + 1) < w1.heap.size := B2.lt
         obtain ⟨B20, B21, B22, B23, B24⟩ := B2.five.1
         obtain ⟨F20, F21, F22, F23, F24⟩ := B2.five.2
         clear B0' B1' B2'
         clear hb)
      | (go_at_call 14; with_reducible refine (CC.out _ hw1).mono ?_; rintro e w2 ⟨rfl, hb⟩
         have B0' := B0.below hb B0.lt
         have B1' := B1.below hb B1.lt
         have B2' := B2.below hb B2.lt
         have hw2 : Below w.heap.size w w2 := hw1.trans (hb.mono hw1.size)
         clear B0 B1 B2 kB0 B00 B01 B02 B03 B04 kB1 B10 B11 B12 B13 B14 kB2 B20 B21 B22 B23 B24
         have B0 := B0'
         have kB0 : w.heap.size < w2.heap.size := B0.lt
         obtain ⟨B00, B01, B02, B03, B04⟩ := B0.five.1
         have B1 := B1'
         have kB1 : (w.heap.size + 1) < w2.heap.size := B1.lt
         obtain ⟨B10, B11, B12, B13, B14⟩ := B1.five.1
         have B2 := B2'
         have kB2 : (w.heap.size + 1 + 1) < w2.heap.size := B2.lt
         obtain ⟨B20, B21, B22, B23, B24⟩ := B2.five.1
         obtain ⟨F20, F21, F22, F23, F24⟩ := B2.five.2
         clear B0' B1' B2'
         clear hb))
  refine bodyPost_ret (v := .tuple #[.agg #[.int .i64 xk, .int .i64 xn, .int .i64 xs, .string xt, .bool xb], .int .i64 r]) (by simp [results, Tryz.results87, go_sem, B20, B21, B22, B23, B24, F20, F21, F22, F23, F24, kB2, kB0, kB1] <;> first | done | rfl | exact ⟨rfl, rfl, rfl, rfl, rfl⟩ | exact ⟨rfl, rfl, rfl, rfl⟩) rfl ⟨rfl, ?_⟩
  go_grown
  all_goals first | exact hw2 | exact hw2.size

set_option maxRecDepth 100000 in
theorem beside_oth (n s : Int) (t : ByteArray) (b : Bool) (k2 n2 s2 : Int) (t2 : ByteArray) (b2 : Bool) {w : World} (hN : ∀ w', Calls Tryz.prog 20 #[.agg #[.int .i64 k2, .int .i64 n2, .int .i64 s2, .string t2, .bool b2]] w' fun e w'' => e = .returned (.bool false) ∧ Below w'.heap.size w' w'') (e4 : (k2 == 4) = false) : Calls Tryz.prog 87 #[.agg #[.int .i64 5, .int .i64 n, .int .i64 s, .string t, .bool b], .agg #[.int .i64 k2, .int .i64 n2, .int .i64 s2, .string t2, .bool b2]] w fun e w' => e = .returned (.tuple #[.agg #[.int .i64 5, .int .i64 n, .int .i64 s, .string t, .bool b], .int .i64 0]) ∧ Below w.heap.size w w' := by
  have CN := Lib.hid hN
  clear hN
  go_enter Tryz.func87, Tryz.ntmps87
  go_wp2_with (first
      | (go_at_call 20; with_reducible refine (CN.out _).mono ?_; rintro e w1 ⟨rfl, hb⟩
         have B0' : Blk w1 w.heap.size #[.int .i64 5, .int .i64 n, .int .i64 s, .string t, .bool b] 24 := (((Blk.here rfl (by simp)).alloc _).alloc _).below hb (by simp <;> omega)
         have B1' : Blk w1 (w.heap.size + 1) #[.int .i64 k2, .int .i64 n2, .int .i64 s2, .string t2, .bool b2] 24 := ((Blk.here rfl (by simp)).alloc _).below hb (by simp <;> omega)
         have B2' : Blk w1 (w.heap.size + 1 + 1) #[.int .i64 0, .int .i64 0, .int .i64 0, .string ⟨#[]⟩, .bool false] 24 := (Blk.here rfl (by simp)).below hb (by simp <;> omega)
         have hw1 : Below w.heap.size w w1 := Below.trans (by go_grown) (hb.mono (by simp <;> omega))
         have B0 := B0'
         have kB0 : w.heap.size < w1.heap.size := B0.lt
         obtain ⟨B00, B01, B02, B03, B04⟩ := B0.five.1
         have B1 := B1'
         have kB1 : (w.heap.size + 1) < w1.heap.size := B1.lt
         obtain ⟨B10, B11, B12, B13, B14⟩ := B1.five.1
         have B2 := B2'
         have kB2 : (w.heap.size + 1 + 1) < w1.heap.size := B2.lt
         obtain ⟨B20, B21, B22, B23, B24⟩ := B2.five.1
         obtain ⟨F20, F21, F22, F23, F24⟩ := B2.five.2
         clear B0' B1' B2'
         clear hb))
  refine bodyPost_ret (v := .tuple #[.agg #[.int .i64 5, .int .i64 n, .int .i64 s, .string t, .bool b], .int .i64 0]) (by simp [results, Tryz.results87, go_sem, B20, B21, B22, B23, B24, F20, F21, F22, F23, F24, kB2, kB0, kB1] <;> first | done | rfl | exact ⟨rfl, rfl, rfl, rfl, rfl⟩ | exact ⟨rfl, rfl, rfl, rfl⟩) rfl ⟨rfl, ?_⟩
  go_grown
  all_goals first | exact hw1 | exact hw1.size

theorem beside_any (a c : At) (ha : RA a) (ht : a.t.size ≤ 2000000) (m : Int) (w : World) (hL : Laid m w) : Calls Tryz.prog 87 #[AV a, AV c] w fun e w' => e = .returned (.tuple #[AV (besideF a c).1, .int .i64 (besideF a c).2]) ∧ Below w.heap.size w w' := by
  have nc := fun w' => numeric_any c.k c.n c.s c.t c.b w'
  have cc := fun tk w' (hb : Below w.heap.size w w') => cast_any a ha ht tk m w' (hL.on hb)
  unfold besideF
  obtain ⟨k2, n2, s2, t2, b2⟩ := c
  simp only at *
  cases e1 : (a.k != 5)
  · simp only [Bool.false_eq_true, if_false]
    obtain ⟨k, n, s, t, b⟩ := a
    obtain rfl : k = 5 := by simpa using e1
    cases e2 : (k2 == 1 || k2 == 2)
    · rw [e2] at nc
      simp only [Bool.false_eq_true, if_false]
      cases e4 : (k2 == 4)
      · simp only [Bool.false_eq_true, if_false]
        exact beside_oth _ _ _ _ _ _ _ _ _ nc e4
      · simp only [if_true]
        exact beside_bool _ _ _ _ _ _ _ _ _ nc e4 _ _ _ _ _ _ (cc 4)
    · rw [e2] at nc
      simp only [if_true]
      exact beside_num _ _ _ _ _ _ _ _ _ nc _ _ _ _ _ _ (cc 2)
  · simp only [if_true]
    exact beside_no _ _ _ _ _ _ _ _ _ _ e1 w
theorem beside_RA {a c : At} (ha : RA a) (h0 : (besideF a c).2 = 0) : RA (besideF a c).1 := by
  unfold besideF at h0 ⊢
  split
  · exact ha
  · rename_i h1
    rw [if_neg h1] at h0
    split
    · rename_i h2
      rw [if_pos h2] at h0
      exact cast_RA ha 2 h0
    · rename_i h2
      rw [if_neg h2] at h0
      split
      · rename_i h3
        rw [if_pos h3] at h0
        exact cast_RA ha 4 h0
      · exact ha
set_option maxRecDepth 100000 in
set_option maxHeartbeats 1000000 in
theorem pair_1 (op : Int) (k n s : Int) (t : ByteArray) (b : Bool) (k2 n2 s2 : Int) (t2 : ByteArray) (b2 : Bool) (xk xn xs : Int) (xt : ByteArray) (xb : Bool) (r : Int) {w : World} (hB : ∀ w', Below w.heap.size w w' → Calls Tryz.prog 87 #[.agg #[.int .i64 k, .int .i64 n, .int .i64 s, .string t, .bool b], .agg #[.int .i64 k2, .int .i64 n2, .int .i64 s2, .string t2, .bool b2]] w' fun e w'' => e = .returned (.tuple #[.agg #[.int .i64 xk, .int .i64 xn, .int .i64 xs, .string xt, .bool xb], .int .i64 r]) ∧ Below w'.heap.size w' w'') (e1 : (r != 0) = true) : Calls Tryz.prog 59 #[.int .i64 op, .agg #[.int .i64 k, .int .i64 n, .int .i64 s, .string t, .bool b], .agg #[.int .i64 k2, .int .i64 n2, .int .i64 s2, .string t2, .bool b2]] w fun e w' => e = .returned (.tuple #[.bool false, .int .i64 r]) ∧ Below w.heap.size w w' := by
  have CB := Lib.hid hB
  clear hB
  go_enter Tryz.func59, Tryz.ntmps59
  go_wp2_with (first
      | (go_at_call 87; with_reducible refine (CB.out _ (by go_grown)).mono ?_; rintro e w1 ⟨rfl, hb⟩
         have B0' : Blk w1 w.heap.size #[.int .i64 k, .int .i64 n, .int .i64 s, .string t, .bool b] 24 := ((Blk.here rfl (by simp)).alloc _).below hb (by simp <;> omega)
         have B1' : Blk w1 (w.heap.size + 1) #[.int .i64 k2, .int .i64 n2, .int .i64 s2, .string t2, .bool b2] 24 := (Blk.here rfl (by simp)).below hb (by simp <;> omega)
         have hw1 : Below w.heap.size w w1 := Below.trans (by go_grown) (hb.mono (by simp <;> omega))
         have B0 := B0'
         have kB0 : w.heap.size < w1.heap.size := B0.lt
         obtain ⟨B00, B01, B02, B03, B04⟩ := B0.five.1
         have B1 := B1'
         have kB1 : (w.heap.size + 1) < w1.heap.size := B1.lt
         obtain ⟨B10, B11, B12, B13, B14⟩ := B1.five.1
         clear B0' B1'
         clear hb))
  go_ret2
  refine ⟨rfl, ?_⟩
  go_grown
  all_goals first | exact hw1 | exact hw1.size
set_option maxRecDepth 100000 in
set_option maxHeartbeats 1000000 in
theorem pair_2 (op : Int) (k n s : Int) (t : ByteArray) (b : Bool) (k2 n2 s2 : Int) (t2 : ByteArray) (b2 : Bool) (xk xn xs : Int) (xt : ByteArray) (xb : Bool) (r : Int) (yk yn ys : Int) (yt : ByteArray) (yb : Bool) (q : Int) {w : World} (hB : ∀ w', Below w.heap.size w w' → Calls Tryz.prog 87 #[.agg #[.int .i64 k, .int .i64 n, .int .i64 s, .string t, .bool b], .agg #[.int .i64 k2, .int .i64 n2, .int .i64 s2, .string t2, .bool b2]] w' fun e w'' => e = .returned (.tuple #[.agg #[.int .i64 xk, .int .i64 xn, .int .i64 xs, .string xt, .bool xb], .int .i64 r]) ∧ Below w'.heap.size w' w'') (e1 : (r != 0) = false) (hD : ∀ w', Below w.heap.size w w' → Calls Tryz.prog 87 #[.agg #[.int .i64 k2, .int .i64 n2, .int .i64 s2, .string t2, .bool b2], .agg #[.int .i64 k, .int .i64 n, .int .i64 s, .string t, .bool b]] w' fun e w'' => e = .returned (.tuple #[.agg #[.int .i64 yk, .int .i64 yn, .int .i64 ys, .string yt, .bool yb], .int .i64 q]) ∧ Below w'.heap.size w' w'') (e2 : (q != 0) = true) : Calls Tryz.prog 59 #[.int .i64 op, .agg #[.int .i64 k, .int .i64 n, .int .i64 s, .string t, .bool b], .agg #[.int .i64 k2, .int .i64 n2, .int .i64 s2, .string t2, .bool b2]] w fun e w' => e = .returned (.tuple #[.bool false, .int .i64 q]) ∧ Below w.heap.size w w' := by
  have CB := Lib.hid hB
  have CD := Lib.hid hD
  clear hB hD
  go_enter Tryz.func59, Tryz.ntmps59
  go_wp2_with (first
      | (go_at_call 87; with_reducible refine (CB.out _ (by go_grown)).mono ?_; rintro e w1 ⟨rfl, hb⟩
         have B0' : Blk w1 w.heap.size #[.int .i64 k, .int .i64 n, .int .i64 s, .string t, .bool b] 24 := ((Blk.here rfl (by simp)).alloc _).below hb (by simp <;> omega)
         have B1' : Blk w1 (w.heap.size + 1) #[.int .i64 k2, .int .i64 n2, .int .i64 s2, .string t2, .bool b2] 24 := (Blk.here rfl (by simp)).below hb (by simp <;> omega)
         have hw1 : Below w.heap.size w w1 := Below.trans (by go_grown) (hb.mono (by simp <;> omega))
         have B0 := B0'
         have kB0 : w.heap.size < w1.heap.size := B0.lt
         obtain ⟨B00, B01, B02, B03, B04⟩ := B0.five.1
         have B1 := B1'
         have kB1 : (w.heap.size + 1) < w1.heap.size := B1.lt
         obtain ⟨B10, B11, B12, B13, B14⟩ := B1.five.1
         clear B0' B1'
         clear hb)
      | (go_at_call 87; with_reducible refine (CD.out _ (Below.alloc hw1 hw1.size _)).mono ?_; rintro e w2 ⟨rfl, hb⟩
         have B0' := (B0.alloc _).below hb (B0.alloc _).lt
         have B1' := (B1.alloc _).below hb (B1.alloc _).lt
         have D3' : Blk w2 w1.heap.size #[.int .i64 xk, .int .i64 xn, .int .i64 xs, .string xt, .bool xb] 24 := (Blk.here rfl (by simp)).below hb (by simp <;> omega)
         have hw2 : Below w.heap.size w w2 := Below.trans (Below.alloc hw1 hw1.size _) (hb.mono (by have := hw1.size; simp <;> omega))
         clear B0 B1 kB0 B00 B01 B02 B03 B04 kB1 B10 B11 B12 B13 B14
         have B0 := B0'
         have kB0 : w.heap.size < w2.heap.size := B0.lt
         obtain ⟨B00, B01, B02, B03, B04⟩ := B0.five.1
         have B1 := B1'
         have kB1 : (w.heap.size + 1) < w2.heap.size := B1.lt
         obtain ⟨B10, B11, B12, B13, B14⟩ := B1.five.1
         have D3 := D3'
         have kD3 : w1.heap.size < w2.heap.size := D3.lt
         obtain ⟨D30, D31, D32, D33, D34⟩ := D3.five.1
         clear B0' B1' D3'
         clear hb))
  go_ret2
  refine ⟨rfl, ?_⟩
  go_grown
  all_goals first | exact hw2 | exact hw2.size
set_option maxRecDepth 100000 in
set_option maxHeartbeats 1000000 in
theorem pair_3 (op : Int) (k n s : Int) (t : ByteArray) (b : Bool) (k2 n2 s2 : Int) (t2 : ByteArray) (b2 : Bool) (xk xn xs : Int) (xt : ByteArray) (xb : Bool) (r : Int) (yk yn ys : Int) (yt : ByteArray) (yb : Bool) (q : Int) (v : Bool) (z : Int) {w : World} (hB : ∀ w', Below w.heap.size w w' → Calls Tryz.prog 87 #[.agg #[.int .i64 k, .int .i64 n, .int .i64 s, .string t, .bool b], .agg #[.int .i64 k2, .int .i64 n2, .int .i64 s2, .string t2, .bool b2]] w' fun e w'' => e = .returned (.tuple #[.agg #[.int .i64 xk, .int .i64 xn, .int .i64 xs, .string xt, .bool xb], .int .i64 r]) ∧ Below w'.heap.size w' w'') (e1 : (r != 0) = false) (hD : ∀ w', Below w.heap.size w w' → Calls Tryz.prog 87 #[.agg #[.int .i64 k2, .int .i64 n2, .int .i64 s2, .string t2, .bool b2], .agg #[.int .i64 k, .int .i64 n, .int .i64 s, .string t, .bool b]] w' fun e w'' => e = .returned (.tuple #[.agg #[.int .i64 yk, .int .i64 yn, .int .i64 ys, .string yt, .bool yb], .int .i64 q]) ∧ Below w'.heap.size w' w'') (e2 : (q != 0) = false) (hV : ∀ w', Calls Tryz.prog 36 #[.int .i64 op, .agg #[.int .i64 xk, .int .i64 xn, .int .i64 xs, .string xt, .bool xb], .agg #[.int .i64 yk, .int .i64 yn, .int .i64 ys, .string yt, .bool yb]] w' fun e w'' => e = .returned (.tuple #[.bool v, .int .i64 z]) ∧ Below w'.heap.size w' w'') : Calls Tryz.prog 59 #[.int .i64 op, .agg #[.int .i64 k, .int .i64 n, .int .i64 s, .string t, .bool b], .agg #[.int .i64 k2, .int .i64 n2, .int .i64 s2, .string t2, .bool b2]] w fun e w' => e = .returned (.tuple #[.bool v, .int .i64 z]) ∧ Below w.heap.size w w' := by
  have CB := Lib.hid hB
  have CD := Lib.hid hD
  have CV := Lib.hid hV
  clear hB hD hV
  go_enter Tryz.func59, Tryz.ntmps59
  go_wp2_with (first
      | (go_at_call 87; with_reducible refine (CB.out _ (by go_grown)).mono ?_; rintro e w1 ⟨rfl, hb⟩
         have B0' : Blk w1 w.heap.size #[.int .i64 k, .int .i64 n, .int .i64 s, .string t, .bool b] 24 := ((Blk.here rfl (by simp)).alloc _).below hb (by simp <;> omega)
         have B1' : Blk w1 (w.heap.size + 1) #[.int .i64 k2, .int .i64 n2, .int .i64 s2, .string t2, .bool b2] 24 := (Blk.here rfl (by simp)).below hb (by simp <;> omega)
         have hw1 : Below w.heap.size w w1 := Below.trans (by go_grown) (hb.mono (by simp <;> omega))
         have B0 := B0'
         have kB0 : w.heap.size < w1.heap.size := B0.lt
         obtain ⟨B00, B01, B02, B03, B04⟩ := B0.five.1
         have B1 := B1'
         have kB1 : (w.heap.size + 1) < w1.heap.size := B1.lt
         obtain ⟨B10, B11, B12, B13, B14⟩ := B1.five.1
         clear B0' B1'
         clear hb)
      | (go_at_call 87; with_reducible refine (CD.out _ (Below.alloc hw1 hw1.size _)).mono ?_; rintro e w2 ⟨rfl, hb⟩
         have B0' := (B0.alloc _).below hb (B0.alloc _).lt
         have B1' := (B1.alloc _).below hb (B1.alloc _).lt
         have D3' : Blk w2 w1.heap.size #[.int .i64 xk, .int .i64 xn, .int .i64 xs, .string xt, .bool xb] 24 := (Blk.here rfl (by simp)).below hb (by simp <;> omega)
         have hw2 : Below w.heap.size w w2 := Below.trans (Below.alloc hw1 hw1.size _) (hb.mono (by have := hw1.size; simp <;> omega))
         clear B0 B1 kB0 B00 B01 B02 B03 B04 kB1 B10 B11 B12 B13 B14
         have B0 := B0'
         have kB0 : w.heap.size < w2.heap.size := B0.lt
         obtain ⟨B00, B01, B02, B03, B04⟩ := B0.five.1
         have B1 := B1'
         have kB1 : (w.heap.size + 1) < w2.heap.size := B1.lt
         obtain ⟨B10, B11, B12, B13, B14⟩ := B1.five.1
         have D3 := D3'
         have kD3 : w1.heap.size < w2.heap.size := D3.lt
         obtain ⟨D30, D31, D32, D33, D34⟩ := D3.five.1
         clear B0' B1' D3'
         clear hb)
      | (go_at_call 36; with_reducible refine (CV.out _).mono ?_; rintro e w3 ⟨rfl, hb⟩
         have B0' := (B0.alloc _).below hb (B0.alloc _).lt
         have B1' := (B1.alloc _).below hb (B1.alloc _).lt
         have D3' := (D3.alloc _).below hb (D3.alloc _).lt
         have D5' : Blk w3 w2.heap.size #[.int .i64 yk, .int .i64 yn, .int .i64 ys, .string yt, .bool yb] 24 := (Blk.here rfl (by simp)).below hb (by simp <;> omega)
         have hw3 : Below w.heap.size w w3 := Below.trans (Below.alloc hw2 hw2.size _) (hb.mono (by have := hw2.size; simp <;> omega))
         clear B0 B1 D3 kB0 B00 B01 B02 B03 B04 kB1 B10 B11 B12 B13 B14 kD3 D30 D31 D32 D33 D34
         have B0 := B0'
         have kB0 : w.heap.size < w3.heap.size := B0.lt
         obtain ⟨B00, B01, B02, B03, B04⟩ := B0.five.1
         have B1 := B1'
         have kB1 : (w.heap.size + 1) < w3.heap.size := B1.lt
         obtain ⟨B10, B11, B12, B13, B14⟩ := B1.five.1
         have D3 := D3'
         have kD3 : w1.heap.size < w3.heap.size := D3.lt
         obtain ⟨D30, D31, D32, D33, D34⟩ := D3.five.1
         have D5 := D5'
         have kD5 : w2.heap.size < w3.heap.size := D5.lt
         obtain ⟨D50, D51, D52, D53, D54⟩ := D5.five.1
         clear B0' B1' D3' D5'
         clear hb))
  go_ret2
  refine ⟨rfl, ?_⟩
  go_grown
  all_goals first | exact hw3 | exact hw3.size
theorem pair_any (op : Int) (a c : At) (ha : RA a) (hc : RA c) (ht : a.t.size ≤ 2000000) (hu : c.t.size ≤ 2000000) (m : Int) (w : World) (hL : Laid m w) : Calls Tryz.prog 59 #[.int .i64 op, AV a, AV c] w fun e w' => e = .returned (.tuple #[.bool (pairF op a c).1, .int .i64 (pairF op a c).2]) ∧ Below w.heap.size w w' := by
  have h1 := fun w' (hb : Below w.heap.size w w') => beside_any a c ha ht m w' (hL.on hb)
  have h2 := fun w' (hb : Below w.heap.size w w') => beside_any c a hc hu m w' (hL.on hb)
  unfold pairF
  cases e1 : ((besideF a c).2 != 0)
  · simp only [Bool.false_eq_true, if_false]
    cases e2 : ((besideF c a).2 != 0)
    · simp only [Bool.false_eq_true, if_false]
      have r1 := beside_RA ha (by simpa using e1)
      have r2 := beside_RA hc (by simpa using e2)
      exact pair_3 op _ _ _ _ _ _ _ _ _ _ _ _ _ _ _ _ _ _ _ _ _ _ _ _ h1 e1 h2 e2 (fun w' => value_any op _ _ r1 r2 w')
    · simp only [if_true]
      exact pair_2 op _ _ _ _ _ _ _ _ _ _ _ _ _ _ _ _ _ _ _ _ _ _ h1 e1 h2 e2
  · simp only [if_true]
    exact pair_1 op _ _ _ _ _ _ _ _ _ _ _ _ _ _ _ _ h1 e1
end Go.Proofs.YtaoobajokhcimaaGreatDoor

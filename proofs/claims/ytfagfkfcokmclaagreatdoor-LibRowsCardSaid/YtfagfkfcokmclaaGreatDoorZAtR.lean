/- What the reference says is right. -/
import Derived.Test.YtfagfkfcokmclaaGreatDoorZAtA
import Derived.Test.YtfagfkfcokmclaaGreatDoorZAtJ
import Derived.Test.YtfagfkfcokmclaaGreatDoorZWaG
set_option linter.unusedSimpArgs false
set_option linter.unusedVariables false
set_option linter.constructorNameAsVariable false
namespace Go.Proofs.YtfagfkfcokmclaaGreatDoor
open Go.RowKit

theorem nil_list (t : ByteArray) : decide (t = bs []) = (t.toList == []) := by
  rw [Lib.toList_data]
  cases e : (t.data.toList == [])
  · refine decide_eq_false fun h => ?_
    subst h
    cases e
  · refine decide_eq_true ?_
    have : t.data.toList = [] := by simpa using e
    rw [← list_bs t, this]

set_option maxRecDepth 100000 in
set_option maxHeartbeats 1000000 in
theorem rr_1 (n s : Int) (t : ByteArray) (b : Bool) (ht : t.size ≤ 2000000) (w : World) : Calls Tryz.prog 8 #[.agg #[.int .i64 1, .int .i64 n, .int .i64 s, .string t, .bool b]] w fun e w' =>
    e = .returned (.bool (rightA ⟨1, n, s, t, b⟩)) ∧ Below w.heap.size w w' := by
  have CV := Lib.hid (fun w => valid_any t w (by omega))
  have CR := Lib.hid (fun w => ref_right_any n s w)
  clear ht
  unfold rightA
  rw [nil_list]
  simp only
  generalize validF t = V at *
  generalize rightF n s = R at *

  cases es : (s != 0)
  all_goals cases b
  all_goals cases et : (t.toList == [])
  all_goals
    go_enter Tryz.func8, Tryz.ntmps8
    go_wp2_with (first
      | (go_at_call 15; with_reducible refine (CV.out _).mono ?_; rintro e w1 ⟨rfl, hb⟩
         have hw1 : Below w.heap.size w w1 := Below.trans (by go_grown) (hb.mono (by simp))
         clear hb)
      | (go_at_call 16; with_reducible refine (CR.out _).mono ?_; rintro e w1 ⟨rfl, rfl⟩))
  all_goals
    go_returns
    refine ⟨by simp [es, et], ?_⟩
    first | exact hw1 | go_grown

set_option maxRecDepth 100000 in
set_option maxHeartbeats 1000000 in
theorem rr_2 (n s : Int) (t : ByteArray) (b : Bool) (ht : t.size ≤ 2000000) (w : World) : Calls Tryz.prog 8 #[.agg #[.int .i64 2, .int .i64 n, .int .i64 s, .string t, .bool b]] w fun e w' =>
    e = .returned (.bool (rightA ⟨2, n, s, t, b⟩)) ∧ Below w.heap.size w w' := by
  have CV := Lib.hid (fun w => valid_any t w (by omega))
  have CR := Lib.hid (fun w => ref_right_any n s w)
  clear ht
  unfold rightA
  rw [nil_list]
  simp only
  generalize validF t = V at *
  generalize rightF n s = R at *

  cases b
  all_goals cases et : (t.toList == [])
  all_goals
    go_enter Tryz.func8, Tryz.ntmps8
    go_wp2_with (first
      | (go_at_call 15; with_reducible refine (CV.out _).mono ?_; rintro e w1 ⟨rfl, hb⟩
         have hw1 : Below w.heap.size w w1 := Below.trans (by go_grown) (hb.mono (by simp))
         clear hb)
      | (go_at_call 16; with_reducible refine (CR.out _).mono ?_; rintro e w1 ⟨rfl, rfl⟩))
  all_goals
    go_returns
    refine ⟨by simp [et], ?_⟩
    first | exact hw1 | go_grown

set_option maxRecDepth 100000 in
set_option maxHeartbeats 1000000 in
theorem rr_3 (n s : Int) (t : ByteArray) (b : Bool) (ht : t.size ≤ 2000000) (w : World) : Calls Tryz.prog 8 #[.agg #[.int .i64 3, .int .i64 n, .int .i64 s, .string t, .bool b]] w fun e w' =>
    e = .returned (.bool (rightA ⟨3, n, s, t, b⟩)) ∧ Below w.heap.size w w' := by
  have CV := Lib.hid (fun w => valid_any t w (by omega))
  have CR := Lib.hid (fun w => ref_right_any n s w)
  clear ht
  unfold rightA
  rw [nil_list]
  simp only
  generalize validF t = V at *
  generalize rightF n s = R at *

  cases en : (n != 0)
  all_goals cases es : (s != 0)
  all_goals cases b
  all_goals
    go_enter Tryz.func8, Tryz.ntmps8
    go_wp2_with (first
      | (go_at_call 15; with_reducible refine (CV.out _).mono ?_; rintro e w1 ⟨rfl, hb⟩
         have hw1 : Below w.heap.size w w1 := Below.trans (by go_grown) (hb.mono (by simp))
         clear hb)
      | (go_at_call 16; with_reducible refine (CR.out _).mono ?_; rintro e w1 ⟨rfl, rfl⟩))
  all_goals
    go_returns
    refine ⟨by simp [en, es], ?_⟩
    first | exact hw1 | go_grown

set_option maxRecDepth 100000 in
set_option maxHeartbeats 1000000 in
theorem rr_4 (n s : Int) (t : ByteArray) (b : Bool) (ht : t.size ≤ 2000000) (w : World) : Calls Tryz.prog 8 #[.agg #[.int .i64 4, .int .i64 n, .int .i64 s, .string t, .bool b]] w fun e w' =>
    e = .returned (.bool (rightA ⟨4, n, s, t, b⟩)) ∧ Below w.heap.size w w' := by
  have CV := Lib.hid (fun w => valid_any t w (by omega))
  have CR := Lib.hid (fun w => ref_right_any n s w)
  clear ht
  unfold rightA
  rw [nil_list]
  simp only
  generalize validF t = V at *
  generalize rightF n s = R at *

  cases en : (n != 0)
  all_goals cases es : (s != 0)
  all_goals cases et : (t.toList == [])
  all_goals
    go_enter Tryz.func8, Tryz.ntmps8
    go_wp2_with (first
      | (go_at_call 15; with_reducible refine (CV.out _).mono ?_; rintro e w1 ⟨rfl, hb⟩
         have hw1 : Below w.heap.size w w1 := Below.trans (by go_grown) (hb.mono (by simp))
         clear hb)
      | (go_at_call 16; with_reducible refine (CR.out _).mono ?_; rintro e w1 ⟨rfl, rfl⟩))
  all_goals
    go_returns
    refine ⟨by simp [en, es, et], ?_⟩
    first | exact hw1 | go_grown

set_option maxRecDepth 100000 in
set_option maxHeartbeats 1000000 in
theorem rr_5 (n s : Int) (t : ByteArray) (b : Bool) (ht : t.size ≤ 2000000) (w : World) : Calls Tryz.prog 8 #[.agg #[.int .i64 5, .int .i64 n, .int .i64 s, .string t, .bool b]] w fun e w' =>
    e = .returned (.bool (rightA ⟨5, n, s, t, b⟩)) ∧ Below w.heap.size w w' := by
  have CV := Lib.hid (fun w => valid_any t w (by omega))
  have CR := Lib.hid (fun w => ref_right_any n s w)
  clear ht
  unfold rightA
  rw [nil_list]
  simp only
  generalize validF t = V at *
  generalize rightF n s = R at *

  cases en : (n != 0)
  all_goals cases es : (s != 0)
  all_goals cases b
  all_goals
    go_enter Tryz.func8, Tryz.ntmps8
    go_wp2_with (first
      | (go_at_call 15; with_reducible refine (CV.out _).mono ?_; rintro e w1 ⟨rfl, hb⟩
         have hw1 : Below w.heap.size w w1 := Below.trans (by go_grown) (hb.mono (by simp))
         clear hb)
      | (go_at_call 16; with_reducible refine (CR.out _).mono ?_; rintro e w1 ⟨rfl, rfl⟩))
  all_goals
    go_returns
    refine ⟨by simp [en, es], ?_⟩
    first | exact hw1 | go_grown

set_option maxRecDepth 100000 in
set_option maxHeartbeats 1000000 in
theorem rr_k (k n s : Int) (t : ByteArray) (b : Bool) (h1 : (k == 1) = false) (h2 : (k == 2) = false) (h3 : (k == 3) = false) (h4 : (k == 4) = false) (h5 : (k == 5) = false) (ht : t.size ≤ 2000000) (w : World) : Calls Tryz.prog 8 #[.agg #[.int .i64 k, .int .i64 n, .int .i64 s, .string t, .bool b]] w fun e w' =>
    e = .returned (.bool (rightA ⟨k, n, s, t, b⟩)) ∧ Below w.heap.size w w' := by
  have CV := Lib.hid (fun w => valid_any t w (by omega))
  have CR := Lib.hid (fun w => ref_right_any n s w)
  clear ht
  unfold rightA
  rw [nil_list]
  simp only
  generalize validF t = V at *
  generalize rightF n s = R at *

  have g1 : (k != 1) = true := by unfold bne; rw [h1]; rfl
  have g2 : (k != 2) = true := by unfold bne; rw [h2]; rfl
  have g4 : (k != 4) = true := by unfold bne; rw [h4]; rfl
  cases en : (n != 0)
  all_goals cases es : (s != 0)
  all_goals cases b
  all_goals cases et : (t.toList == [])
  all_goals
    go_enter Tryz.func8, Tryz.ntmps8
    go_wp2_with (first
      | (go_at_call 15; with_reducible refine (CV.out _).mono ?_; rintro e w1 ⟨rfl, hb⟩
         have hw1 : Below w.heap.size w w1 := Below.trans (by go_grown) (hb.mono (by simp))
         clear hb)
      | (go_at_call 16; with_reducible refine (CR.out _).mono ?_; rintro e w1 ⟨rfl, rfl⟩))
  all_goals
    go_returns
    refine ⟨by simp [en, es, et, h1, h2, h3, h4, h5, g1, g2, g4], ?_⟩
    first | exact hw1 | go_grown

theorem rright_any (k n s : Int) (t : ByteArray) (b : Bool) (ht : t.size ≤ 2000000) (w : World) : Calls Tryz.prog 8 #[.agg #[.int .i64 k, .int .i64 n, .int .i64 s, .string t, .bool b]] w fun e w' =>
    e = .returned (.bool (rightA ⟨k, n, s, t, b⟩)) ∧ Below w.heap.size w w' := by
  cases h1 : (k == 1)
  · cases h2 : (k == 2)
    · cases h3 : (k == 3)
      · cases h4 : (k == 4)
        · cases h5 : (k == 5)
          · exact rr_k k n s t b h1 h2 h3 h4 h5 ht w
          · obtain rfl : k = 5 := by simpa using h5
            exact rr_5 n s t b ht w
        · obtain rfl : k = 4 := by simpa using h4
          exact rr_4 n s t b ht w
      · obtain rfl : k = 3 := by simpa using h3
        exact rr_3 n s t b ht w
    · obtain rfl : k = 2 := by simpa using h2
      exact rr_2 n s t b ht w
  · obtain rfl : k = 1 := by simpa using h1
    exact rr_1 n s t b ht w
end Go.Proofs.YtfagfkfcokmclaaGreatDoor

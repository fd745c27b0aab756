/- The document's texts and casts of values. -/
import Derived.Test.YtaoobajokhcimaaGreatDoorAtY
import Derived.Test.YtaoobajokhcimaaGreatDoorMgB
import Derived.Test.YtaoobajokhcimaaGreatDoorAtJ
import Derived.Test.YtaoobajokhcimaaGreatDoorDiQ
import Derived.Test.YtaoobajokhcimaaGreatDoorDiR
set_option linter.unusedSimpArgs false
set_option linter.unusedVariables false
set_option linter.constructorNameAsVariable false
namespace Go.Proofs.YtaoobajokhcimaaGreatDoor
open Go.RowKit

theorem rtext_1 (n : Int) (s : Nat) (t : ByteArray) (b : Bool) (h0 : -9223372036854775808 ≤ n) (h1 : n ≤ 9223372036854775807) (hs : s ≤ 9) (w : World) : Calls Tryz.prog 26 #[.agg #[.int .i64 1, .int .i64 n, .int .i64 (s : Int), .string t, .bool b]] w fun e w' =>
    e = .returned (.string (bs (formatF n s))) ∧ Below w.heap.size w w' := by
  have CF := Lib.hid (fun w => rformat_any n s h0 h1 hs w)
  have e : (⟨(formatF n s).toArray⟩ : ByteArray) = bs (formatF n s) := rfl
  rw [e] at CF
  clear e h0 h1 hs
  generalize bs (formatF n s) = T at *
  go_enter Tryz.func26, Tryz.ntmps26
  go_wp2_with (first
      | (go_at_call 53; with_reducible refine (CF.out _).mono ?_; rintro e w1 ⟨rfl, hb⟩
         have hw1 : Below w.heap.size w w1 := Below.trans (by go_grown) (hb.mono (by simp))))
  go_ret
  exact ⟨rfl, hw1⟩
theorem rtext_2 (n : Int) (s : Nat) (t : ByteArray) (b : Bool) (h0 : -9223372036854775808 ≤ n) (h1 : n ≤ 9223372036854775807) (hs : s ≤ 9) (w : World) : Calls Tryz.prog 26 #[.agg #[.int .i64 2, .int .i64 n, .int .i64 (s : Int), .string t, .bool b]] w fun e w' =>
    e = .returned (.string (bs (formatF n s))) ∧ Below w.heap.size w w' := by
  have CF := Lib.hid (fun w => rformat_any n s h0 h1 hs w)
  have e : (⟨(formatF n s).toArray⟩ : ByteArray) = bs (formatF n s) := rfl
  rw [e] at CF
  clear e h0 h1 hs
  generalize bs (formatF n s) = T at *
  go_enter Tryz.func26, Tryz.ntmps26
  go_wp2_with (first
      | (go_at_call 53; with_reducible refine (CF.out _).mono ?_; rintro e w1 ⟨rfl, hb⟩
         have hw1 : Below w.heap.size w w1 := Below.trans (by go_grown) (hb.mono (by simp))))
  go_ret
  exact ⟨rfl, hw1⟩
theorem rtext_s (k n s : Int) (t : ByteArray) (b : Bool) (hk : k = 3 ∨ k = 5) (w : World) : Calls Tryz.prog 26 #[.agg #[.int .i64 k, .int .i64 n, .int .i64 s, .string t, .bool b]] w fun e w' =>
    e = .returned (.string t) ∧ Below w.heap.size w w' := by
  rcases hk with rfl | rfl
  all_goals
    go_enter Tryz.func26, Tryz.ntmps26
    go_wp2_with fail
    go_ret
    exact ⟨rfl, by go_grown⟩
theorem rtext_4 (n s : Int) (t : ByteArray) (b : Bool) (w : World) : Calls Tryz.prog 26 #[.agg #[.int .i64 4, .int .i64 n, .int .i64 s, .string t, .bool b]] w fun e w' =>
    e = .returned (.string (bs (if b then trueS else falseS))) ∧ Below w.heap.size w w' := by
  cases b
  all_goals
    go_enter Tryz.func26, Tryz.ntmps26
    go_wp2_with fail
    go_ret
    exact ⟨rfl, by go_grown⟩
/-- A right value's text. -/
theorem rtext_any (a : At) (h : RA a) (w : World) : Calls Tryz.prog 26 #[AV a] w fun e w' => e = .returned (.string (textF a)) ∧ Below w.heap.size w w' := by
  cases h with
  | int n h =>
    have e : textF (ofA n) = bs (formatF n 0) := congrArg bs (itoa_format n)
    rw [e]
    exact rtext_1 n 0 (bs []) false (by have := h.lo; omega) (by have := h.hi; omega) (by omega) w
  | dec n s h =>
    obtain ⟨s', rfl⟩ : ∃ s' : Nat, s = (s' : Int) := ⟨s.toNat, by have := h.s0; omega⟩
    have e : textF (numA n (s' : Int)) = bs (formatF n s') := rfl
    rw [e]
    exact rtext_2 n s' (bs []) false (by have := h.lo; omega) (by have := h.hi; omega) (by have := h.s9; omega) w
  | str t h => exact rtext_s 3 0 0 t false (Or.inl rfl) w
  | bool b => exact rtext_4 0 0 (bs []) b w
  | raw t h => exact rtext_s 5 0 0 t false (Or.inr rfl) w

theorem rtoBool_num (k n s : Int) (t : ByteArray) (b : Bool) (hk : k = 1 ∨ k = 2) (w : World) : Calls Tryz.prog 54 #[.agg #[.int .i64 k, .int .i64 n, .int .i64 s, .string t, .bool b]] w fun e w' =>
    e = .returned (.tuple #[.agg #[.int .i64 4, .int .i64 0, .int .i64 0, .string (bs []), .bool (n != 0)], .int .i64 0]) ∧ Below w.heap.size w w' := by
  rcases hk with rfl | rfl
  all_goals
    go_enter Tryz.func54, Tryz.ntmps54
    go_wp2_with fail
    refine bodyPost_ret (v := .tuple #[.agg #[.int .i64 4, .int .i64 0, .int .i64 0, .string (bs []), .bool (n != 0)], .int .i64 0]) (by simp [results, Tryz.results54, go_sem] <;> first | done | rfl | exact ⟨rfl, rfl, rfl, rfl, rfl⟩ | exact ⟨rfl, rfl, rfl, rfl⟩ | exact ⟨rfl, rfl, rfl⟩ | exact ⟨rfl, rfl⟩) rfl ⟨rfl, ?_⟩
    go_grown
set_option maxRecDepth 100000 in
theorem rtoBool_text (k n s : Int) (t : ByteArray) (b : Bool) (hk : k = 3 ∨ k = 5) (ht : t.size ≤ 2000000) (w : World) : Calls Tryz.prog 54 #[.agg #[.int .i64 k, .int .i64 n, .int .i64 s, .string t, .bool b]] w fun e w' =>
    e = .returned (.tuple #[AV (toBoolF ⟨k, n, s, t, b⟩).1, .int .i64 (toBoolF ⟨k, n, s, t, b⟩).2]) ∧ Below w.heap.size w w' := by
  have CT := Lib.hid (fun w => rtrim_any t (by omega) w)
  have hF : toBoolF ⟨k, n, s, t, b⟩ = if trimT t == trueS || trimT t == [49] then (truthA true, 0) else if trimT t == falseS || trimT t == [48] then (truthA false, 0) else (zeroA, 50) := by
    rcases hk with rfl | rfl <;> rfl
  rw [hF]
  clear hF ht
  obtain ⟨T, hT⟩ : ∃ T, T = bs (trimT t) := ⟨_, rfl⟩
  have q : trimT t = T.toList := by
    rw [hT, Lib.toList_data]
    rfl
  rw [q]
  rw [← hT] at CT
  clear hT q
  unfold trueS falseS
  have ek1 : (k == 1) = false := by rcases hk with rfl | rfl <;> rfl
  have ek2 : (k == 2) = false := by rcases hk with rfl | rfl <;> rfl
  clear hk
  cases e1 : (T.toList == [116, 114, 117, 101])
  · cases e2 : (T.toList == [49])
    · cases e3 : (T.toList == [102, 97, 108, 115, 101])
      · cases e4 : (T.toList == [48])
        · simp only [Bool.false_eq_true, Bool.or_false, if_false]
          go_enter Tryz.func54, Tryz.ntmps54
          go_wp2_with (first
      | (go_at_call 55; with_reducible refine (CT.out _).mono ?_; rintro e w1 ⟨rfl, rfl⟩))
          refine bodyPost_ret (v := .tuple #[AV zeroA, .int .i64 50]) (by simp [results, Tryz.results54, go_sem] <;> first | done | rfl | exact ⟨rfl, rfl, rfl, rfl, rfl⟩ | exact ⟨rfl, rfl, rfl, rfl⟩ | exact ⟨rfl, rfl, rfl⟩ | exact ⟨rfl, rfl⟩) rfl ⟨rfl, ?_⟩
          go_grown
        · simp only [Bool.false_eq_true, Bool.or_false, Bool.or_true, if_false, if_true]
          go_enter Tryz.func54, Tryz.ntmps54
          go_wp2_with (first
      | (go_at_call 55; with_reducible refine (CT.out _).mono ?_; rintro e w1 ⟨rfl, rfl⟩))
          refine bodyPost_ret (v := .tuple #[AV (truthA false), .int .i64 0]) (by simp [results, Tryz.results54, go_sem] <;> first | done | rfl | exact ⟨rfl, rfl, rfl, rfl, rfl⟩ | exact ⟨rfl, rfl, rfl, rfl⟩ | exact ⟨rfl, rfl, rfl⟩ | exact ⟨rfl, rfl⟩) rfl ⟨rfl, ?_⟩
          go_grown
      · simp only [Bool.false_eq_true, Bool.or_false, Bool.true_or, if_false, if_true]
        go_enter Tryz.func54, Tryz.ntmps54
        go_wp2_with (first
      | (go_at_call 55; with_reducible refine (CT.out _).mono ?_; rintro e w1 ⟨rfl, rfl⟩))
        refine bodyPost_ret (v := .tuple #[AV (truthA false), .int .i64 0]) (by simp [results, Tryz.results54, go_sem] <;> first | done | rfl | exact ⟨rfl, rfl, rfl, rfl, rfl⟩ | exact ⟨rfl, rfl, rfl, rfl⟩ | exact ⟨rfl, rfl, rfl⟩ | exact ⟨rfl, rfl⟩) rfl ⟨rfl, ?_⟩
        go_grown
    · simp only [Bool.or_true, if_true]
      go_enter Tryz.func54, Tryz.ntmps54
      go_wp2_with (first
      | (go_at_call 55; with_reducible refine (CT.out _).mono ?_; rintro e w1 ⟨rfl, rfl⟩))
      refine bodyPost_ret (v := .tuple #[AV (truthA true), .int .i64 0]) (by simp [results, Tryz.results54, go_sem] <;> first | done | rfl | exact ⟨rfl, rfl, rfl, rfl, rfl⟩ | exact ⟨rfl, rfl, rfl, rfl⟩ | exact ⟨rfl, rfl, rfl⟩ | exact ⟨rfl, rfl⟩) rfl ⟨rfl, ?_⟩
      go_grown
  · simp only [Bool.true_or, if_true]
    go_enter Tryz.func54, Tryz.ntmps54
    go_wp2_with (first
      | (go_at_call 55; with_reducible refine (CT.out _).mono ?_; rintro e w1 ⟨rfl, rfl⟩))
    refine bodyPost_ret (v := .tuple #[AV (truthA true), .int .i64 0]) (by simp [results, Tryz.results54, go_sem] <;> first | done | rfl | exact ⟨rfl, rfl, rfl, rfl, rfl⟩ | exact ⟨rfl, rfl, rfl, rfl⟩ | exact ⟨rfl, rfl, rfl⟩ | exact ⟨rfl, rfl⟩) rfl ⟨rfl, ?_⟩
    go_grown

set_option maxRecDepth 100000 in
theorem rcast_3 (k n s : Int) (t : ByteArray) (b : Bool) (ek : (k == 3) = false) (T : ByteArray) (w : World)
    (hC : ∀ w', Calls Tryz.prog 26 #[.agg #[.int .i64 k, .int .i64 n, .int .i64 s, .string t, .bool b]] w' fun e w'' => e = .returned (.string T) ∧ Below w'.heap.size w' w'') :
    Calls Tryz.prog 27 #[.agg #[.int .i64 k, .int .i64 n, .int .i64 s, .string t, .bool b], .int .i64 3] w fun e w' => e = .returned (.tuple #[.agg #[.int .i64 3, .int .i64 0, .int .i64 0, .string T, .bool false], .int .i64 0]) ∧ Below w.heap.size w w' := by
  have CI := Lib.hid hC
  clear hC
  go_enter Tryz.func27, Tryz.ntmps27
  go_wp2_with (first
      | (go_at_call 26; with_reducible refine (CI.out _).mono ?_; rintro e w1 ⟨rfl, hb⟩
         have B0 : Blk w1 w.heap.size #[.int .i64 k, .int .i64 n, .int .i64 s, .string t, .bool b] 24 := (Blk.alloc (Blk.here rfl rfl) _).below hb (by simp; omega)
         have B1 : Blk w1 (w.heap.size + 1) #[.int .i64 0, .int .i64 0, .int .i64 0, .string ⟨#[]⟩, .bool false] 24 := (Blk.here rfl (by simp)).below hb (by simp)
         have hw1 : Below w.heap.size w w1 := Below.trans (by go_grown) (hb.mono (by simp; omega))
         have k1 : w.heap.size + 1 < w1.heap.size := B1.lt
         have j1 : w.heap.size < w1.heap.size := B0.lt
         obtain ⟨⟨a0, a1, a2, a3, a4⟩, g0, g1, g2, g3, g4⟩ := B0.five
         obtain ⟨⟨c0, c1, c2, c3, c4⟩, f0, f1, f2, f3, f4⟩ := B1.five
         clear hb))
  refine bodyPost_ret (v := .tuple #[.agg #[.int .i64 3, .int .i64 0, .int .i64 0, .string T, .bool false], .int .i64 0]) (by simp [results, Tryz.results27, go_sem, c0, c1, c2, c3, c4, f0, f1, f2, f3, f4, k1, j1] <;> first | done | rfl | exact ⟨rfl, rfl, rfl, rfl, rfl⟩ | exact ⟨rfl, rfl, rfl, rfl⟩) rfl ⟨rfl, ?_⟩
  go_grown
  all_goals first | exact hw1 | exact hw1.size
set_option maxRecDepth 100000 in
theorem rcast_5 (k n s : Int) (t : ByteArray) (b : Bool) (ek : (k == 5) = false) (T : ByteArray) (w : World)
    (hC : ∀ w', Calls Tryz.prog 26 #[.agg #[.int .i64 k, .int .i64 n, .int .i64 s, .string t, .bool b]] w' fun e w'' => e = .returned (.string T) ∧ Below w'.heap.size w' w'') :
    Calls Tryz.prog 27 #[.agg #[.int .i64 k, .int .i64 n, .int .i64 s, .string t, .bool b], .int .i64 5] w fun e w' => e = .returned (.tuple #[.agg #[.int .i64 5, .int .i64 0, .int .i64 0, .string T, .bool false], .int .i64 0]) ∧ Below w.heap.size w w' := by
  have CI := Lib.hid hC
  clear hC
  go_enter Tryz.func27, Tryz.ntmps27
  go_wp2_with (first
      | (go_at_call 26; with_reducible refine (CI.out _).mono ?_; rintro e w1 ⟨rfl, hb⟩
         have B0 : Blk w1 w.heap.size #[.int .i64 k, .int .i64 n, .int .i64 s, .string t, .bool b] 24 := (Blk.alloc (Blk.here rfl rfl) _).below hb (by simp; omega)
         have B1 : Blk w1 (w.heap.size + 1) #[.int .i64 0, .int .i64 0, .int .i64 0, .string ⟨#[]⟩, .bool false] 24 := (Blk.here rfl (by simp)).below hb (by simp)
         have hw1 : Below w.heap.size w w1 := Below.trans (by go_grown) (hb.mono (by simp; omega))
         have k1 : w.heap.size + 1 < w1.heap.size := B1.lt
         have j1 : w.heap.size < w1.heap.size := B0.lt
         obtain ⟨⟨a0, a1, a2, a3, a4⟩, g0, g1, g2, g3, g4⟩ := B0.five
         obtain ⟨⟨c0, c1, c2, c3, c4⟩, f0, f1, f2, f3, f4⟩ := B1.five
         clear hb))
  refine bodyPost_ret (v := .tuple #[.agg #[.int .i64 5, .int .i64 0, .int .i64 0, .string T, .bool false], .int .i64 0]) (by simp [results, Tryz.results27, go_sem, c0, c1, c2, c3, c4, f0, f1, f2, f3, f4, k1, j1] <;> first | done | rfl | exact ⟨rfl, rfl, rfl, rfl, rfl⟩ | exact ⟨rfl, rfl, rfl, rfl⟩) rfl ⟨rfl, ?_⟩
  go_grown
  all_goals first | exact hw1 | exact hw1.size
set_option maxRecDepth 100000 in
theorem rcast_4 (k n s : Int) (t : ByteArray) (b : Bool) (ek : (k == 4) = false) (x : At) (r : Int) (w : World)
    (hC : ∀ w', Calls Tryz.prog 54 #[.agg #[.int .i64 k, .int .i64 n, .int .i64 s, .string t, .bool b]] w' fun e w'' => e = .returned (.tuple #[AV x, .int .i64 r]) ∧ Below w'.heap.size w' w'') :
    Calls Tryz.prog 27 #[.agg #[.int .i64 k, .int .i64 n, .int .i64 s, .string t, .bool b], .int .i64 4] w fun e w' => e = .returned (.tuple #[AV x, .int .i64 r]) ∧ Below w.heap.size w w' := by
  have CI := Lib.hid hC
  clear hC
  obtain ⟨xk, xn, xs, xt, xb⟩ := x
  go_enter Tryz.func27, Tryz.ntmps27
  go_wp2_with (first
      | (go_at_call 54; with_reducible refine (CI.out _).mono ?_; rintro e w1 ⟨rfl, hb⟩
         have B0 : Blk w1 w.heap.size #[.int .i64 k, .int .i64 n, .int .i64 s, .string t, .bool b] 24 := (Blk.alloc (Blk.here rfl rfl) _).below hb (by simp; omega)
         have B1 : Blk w1 (w.heap.size + 1) #[.int .i64 0, .int .i64 0, .int .i64 0, .string ⟨#[]⟩, .bool false] 24 := (Blk.here rfl (by simp)).below hb (by simp)
         have hw1 : Below w.heap.size w w1 := Below.trans (by go_grown) (hb.mono (by simp; omega))
         have k1 : w.heap.size + 1 < w1.heap.size := B1.lt
         have j1 : w.heap.size < w1.heap.size := B0.lt
         obtain ⟨⟨a0, a1, a2, a3, a4⟩, g0, g1, g2, g3, g4⟩ := B0.five
         obtain ⟨⟨c0, c1, c2, c3, c4⟩, f0, f1, f2, f3, f4⟩ := B1.five
         clear hb))
  refine bodyPost_ret (v := .tuple #[AV ⟨xk, xn, xs, xt, xb⟩, .int .i64 r]) (by simp [results, Tryz.results27, go_sem, c0, c1, c2, c3, c4, f0, f1, f2, f3, f4, k1, j1] <;> first | done | rfl | exact ⟨rfl, rfl, rfl, rfl, rfl⟩ | exact ⟨rfl, rfl, rfl, rfl⟩) rfl ⟨rfl, ?_⟩
  go_grown
  all_goals first | exact hw1 | exact hw1.size
theorem rcast_arg (k n s : Int) (t : ByteArray) (b : Bool) (tk : Int) (h : (decide (tk < 1) || decide (6 ≤ tk)) = true) (w : World) :
    Calls Tryz.prog 27 #[.agg #[.int .i64 k, .int .i64 n, .int .i64 s, .string t, .bool b], .int .i64 tk] w fun e w' => e = .returned (.tuple #[AV zeroA, .int .i64 2]) ∧ Below w.heap.size w w' := by
  cases e1 : decide (tk < 1)
  · rw [e1] at h
    have e2 : decide (5 < tk) = true := by simp at h ⊢; omega
    go_enter Tryz.func27, Tryz.ntmps27
    go_wp2_with fail
    refine bodyPost_ret (v := .tuple #[AV zeroA, .int .i64 2]) (by simp [results, Tryz.results27, go_sem] <;> first | done | rfl | exact ⟨rfl, rfl, rfl, rfl, rfl⟩ | exact ⟨rfl, rfl, rfl, rfl⟩) rfl ⟨rfl, ?_⟩
    go_grown
  · go_enter Tryz.func27, Tryz.ntmps27
    go_wp2_with fail
    refine bodyPost_ret (v := .tuple #[AV zeroA, .int .i64 2]) (by simp [results, Tryz.results27, go_sem] <;> first | done | rfl | exact ⟨rfl, rfl, rfl, rfl, rfl⟩ | exact ⟨rfl, rfl, rfl, rfl⟩) rfl ⟨rfl, ?_⟩
    go_grown
theorem rcast_same (k n s : Int) (t : ByteArray) (b : Bool) (h : (decide (k < 1) || decide (6 ≤ k)) = false) (w : World) :
    Calls Tryz.prog 27 #[.agg #[.int .i64 k, .int .i64 n, .int .i64 s, .string t, .bool b], .int .i64 k] w fun e w' => e = .returned (.tuple #[.agg #[.int .i64 k, .int .i64 n, .int .i64 s, .string t, .bool b], .int .i64 0]) ∧ Below w.heap.size w w' := by
  simp only [Bool.or_eq_false_iff] at h
  obtain ⟨e1, e2'⟩ := h
  have e2 : decide (5 < k) = false := by simp at e2' ⊢; omega
  have e3 : (k == k) = true := by simp
  go_enter Tryz.func27, Tryz.ntmps27
  go_wp2_with fail
  refine bodyPost_ret (v := .tuple #[.agg #[.int .i64 k, .int .i64 n, .int .i64 s, .string t, .bool b], .int .i64 0]) (by simp [results, Tryz.results27, go_sem] <;> first | done | rfl | exact ⟨rfl, rfl, rfl, rfl, rfl⟩ | exact ⟨rfl, rfl, rfl, rfl⟩) rfl ⟨rfl, ?_⟩
  go_grown
theorem rcast2_int (n : Int) (w : World) : Calls Tryz.prog 27 #[.agg #[.int .i64 1, .int .i64 n, .int .i64 0, .string (bs []), .bool false], .int .i64 2] w fun e w' => e = .returned (.tuple #[.agg #[.int .i64 2, .int .i64 n, .int .i64 0, .string (bs []), .bool false], .int .i64 0]) ∧ Below w.heap.size w w' := by
  go_enter Tryz.func27, Tryz.ntmps27
  go_wp2_with fail
  refine bodyPost_ret (v := .tuple #[.agg #[.int .i64 2, .int .i64 n, .int .i64 0, .string (bs []), .bool false], .int .i64 0]) (by simp [results, Tryz.results27, go_sem] <;> first | done | rfl | exact ⟨rfl, rfl, rfl, rfl, rfl⟩ | exact ⟨rfl, rfl, rfl, rfl⟩) rfl ⟨rfl, ?_⟩
  go_grown
theorem rcast2_bt (w : World) : Calls Tryz.prog 27 #[.agg #[.int .i64 4, .int .i64 0, .int .i64 0, .string (bs []), .bool true], .int .i64 2] w fun e w' => e = .returned (.tuple #[.agg #[.int .i64 2, .int .i64 1, .int .i64 0, .string (bs []), .bool false], .int .i64 0]) ∧ Below w.heap.size w w' := by
  go_enter Tryz.func27, Tryz.ntmps27
  go_wp2_with fail
  refine bodyPost_ret (v := .tuple #[.agg #[.int .i64 2, .int .i64 1, .int .i64 0, .string (bs []), .bool false], .int .i64 0]) (by simp [results, Tryz.results27, go_sem] <;> first | done | rfl | exact ⟨rfl, rfl, rfl, rfl, rfl⟩ | exact ⟨rfl, rfl, rfl, rfl⟩) rfl ⟨rfl, ?_⟩
  go_grown
theorem rcast2_bf (w : World) : Calls Tryz.prog 27 #[.agg #[.int .i64 4, .int .i64 0, .int .i64 0, .string (bs []), .bool false], .int .i64 2] w fun e w' => e = .returned (.tuple #[.agg #[.int .i64 2, .int .i64 0, .int .i64 0, .string (bs []), .bool false], .int .i64 0]) ∧ Below w.heap.size w w' := by
  go_enter Tryz.func27, Tryz.ntmps27
  go_wp2_with fail
  refine bodyPost_ret (v := .tuple #[.agg #[.int .i64 2, .int .i64 0, .int .i64 0, .string (bs []), .bool false], .int .i64 0]) (by simp [results, Tryz.results27, go_sem] <;> first | done | rfl | exact ⟨rfl, rfl, rfl, rfl, rfl⟩ | exact ⟨rfl, rfl, rfl, rfl⟩) rfl ⟨rfl, ?_⟩
  go_grown
theorem tdiv_ten (n : Int) (i : Nat) : (n.tdiv (10 ^ i)).tdiv 10 = n.tdiv (10 ^ (i + 1)) := by
  have hp : ∀ k : Nat, ((10 : Int) ^ k) = ((10 ^ k : Nat) : Int) := fun k => by simp
  have h0 : ∀ a : Nat, ((a : Int).tdiv (10 ^ i)).tdiv 10 = (a : Int).tdiv (10 ^ (i + 1)) := fun a => by
    rw [hp, hp, ← Int.ofNat_tdiv, ← Int.ofNat_tdiv, show (10 : Int) = ((10 : Nat) : Int) from rfl, ← Int.ofNat_tdiv, Nat.div_div_eq_div_mul, Nat.pow_succ]
  rcases (show 0 ≤ n ∨ n < 0 by omega) with h | h
  · obtain ⟨a, rfl⟩ := Int.eq_ofNat_of_zero_le h
    exact h0 a
  · obtain ⟨a, ha⟩ := Int.eq_ofNat_of_zero_le (show 0 ≤ -n by omega)
    have : n = -(a : Int) := by omega
    subst this
    rw [Int.neg_tdiv, Int.neg_tdiv, Int.neg_tdiv, h0]
theorem tdiv_small (n d : Int) (h : -999999999999999999 ≤ n ∧ n ≤ 999999999999999999) (hd : 1 ≤ d) : -999999999999999999 ≤ n.tdiv d ∧ n.tdiv d ≤ 999999999999999999 := by
  have := tdiv_abs n d hd
  omega
set_option maxRecDepth 100000 in
set_option maxHeartbeats 1000000 in
theorem rcast1_dec (n : Int) (s : Nat) (h : Rt n s) (w : World) : Calls Tryz.prog 27 #[.agg #[.int .i64 2, .int .i64 n, .int .i64 (s : Int), .string (bs []), .bool false], .int .i64 1] w fun e w' =>
    e = .returned (.tuple #[.agg #[.int .i64 1, .int .i64 (truncF n s), .int .i64 0, .string (bs []), .bool false], .int .i64 0]) ∧ Below w.heap.size w w' := by
  have hn := And.intro h.lo h.hi
  have hs := h.s9
  have HT : Hid (truncF n s = n.tdiv (10 ^ s)) := by unfold Hid truncF; rw [Int.toNat_natCast]
  clear h
  go_enter Tryz.func27, Tryz.ntmps27
  go_wp2_with fail
  go_loopg [6, 7] s (fun m nv sv wr => ∃ (i j : Nat), i + j = s ∧ j = m ∧ nv = .int .i64 (n.tdiv (10 ^ i)) ∧ sv = .int .i64 (j : Int) ∧ (w.alloc (.cells #[.int .i64 2, .int .i64 n, .int .i64 (s : Int), .string (bs []), .bool false] 24)).alloc (.cells #[.int .i64 0, .int .i64 0, .int .i64 0, .string ⟨#[]⟩, .bool false] 24) = wr)
  case atStart => exact ⟨0, s, by omega, rfl, by simp, rfl, rfl⟩
  case round =>
    obtain ⟨i, j, hij, rfl, rfl, rfl, rfl⟩ := hrel
    have hp := pow10_pos i
    have hx := tdiv_small n (10 ^ i) hn (by omega)
    have hy := tdiv_small n (10 ^ (i + 1)) hn (by have := pow10_pos (i + 1); omega)
    have ht := tdiv_ten n i
    have HE : Hid (j = 0 → n.tdiv (10 ^ i) = truncF n s) := fun e => by rw [HT.out, show i = s by omega]
    obtain ⟨y, hyv⟩ : ∃ y, n.tdiv (10 ^ (i + 1)) = y := ⟨_, rfl⟩
    have HY := Lib.hid hyv
    rw [hyv] at ht hy
    clear hyv hp HT
    generalize n.tdiv (10 ^ i) = x at *
    have hq : IntKind.i64.wrap (x.tdiv 10) = y := by rw [ht]; exact IntWalk.i64_in _ (by omega)
    by_cases hj : 0 < j
    · have d1 : decide ((0 : Int) < (j : Int)) = true := by simp; omega
      have e9 : ((j - 1 : Nat) : Int) = (j : Int) - 1 := by omega
      have j4 : IntKind.i64.wrap ((j : Int) - 1) = ((j - 1 : Nat) : Int) := by rw [e9]; exact IntWalk.i64_in _ (by omega)
      clear HE
      go_wp2_with fail
      go_roundg (j - 1)
      case measure => omega
      case rel => exact ⟨i + 1, j - 1, by omega, rfl, by rw [HY.out], by go_num, rfl⟩
    · have hj0 : j = 0 := by omega
      have HX := Lib.hid (HE.out hj0)
      subst hj0
      clear HE HY
      go_wp2_with fail
      refine bodyPost_ret (v := .tuple #[.agg #[.int .i64 1, .int .i64 x, .int .i64 0, .string (bs []), .bool false], .int .i64 0]) (by simp [results, Tryz.results27, go_sem] <;> first | done | rfl | exact ⟨rfl, rfl, rfl, rfl, rfl⟩ | exact ⟨rfl, rfl, rfl, rfl⟩ | exact ⟨rfl, rfl, rfl⟩ | exact ⟨rfl, rfl⟩) rfl ⟨by rw [HX.out], ?_⟩
      go_grown

set_option maxRecDepth 100000 in
theorem rcast1_bt (w : World) : Calls Tryz.prog 27 #[.agg #[.int .i64 4, .int .i64 0, .int .i64 0, .string (bs []), .bool true], .int .i64 1] w fun e w' =>
    e = .returned (.tuple #[.agg #[.int .i64 1, .int .i64 1, .int .i64 0, .string (bs []), .bool false], .int .i64 0]) ∧ Below w.heap.size w w' := by
  go_enter Tryz.func27, Tryz.ntmps27
  go_wp2_with fail
  go_loop [6, 7] (fun u v => u = .int .i64 1 ∧ v = .int .i64 0) (fun _ _ => 0)
  case atStart => exact ⟨rfl, rfl⟩
  case round =>
    obtain ⟨rfl, rfl⟩ := hrel
    go_wp2_with fail
    refine bodyPost_ret (v := .tuple #[.agg #[.int .i64 1, .int .i64 1, .int .i64 0, .string (bs []), .bool false], .int .i64 0]) (by simp [results, Tryz.results27, go_sem] <;> first | done | rfl | exact ⟨rfl, rfl, rfl, rfl, rfl⟩ | exact ⟨rfl, rfl, rfl, rfl⟩ | exact ⟨rfl, rfl, rfl⟩ | exact ⟨rfl, rfl⟩) rfl ⟨rfl, ?_⟩
    go_grown

set_option maxRecDepth 100000 in
theorem rcast1_bf (w : World) : Calls Tryz.prog 27 #[.agg #[.int .i64 4, .int .i64 0, .int .i64 0, .string (bs []), .bool false], .int .i64 1] w fun e w' =>
    e = .returned (.tuple #[.agg #[.int .i64 1, .int .i64 0, .int .i64 0, .string (bs []), .bool false], .int .i64 0]) ∧ Below w.heap.size w w' := by
  go_enter Tryz.func27, Tryz.ntmps27
  go_wp2_with fail
  go_loop [6, 7] (fun u v => u = .int .i64 0 ∧ v = .int .i64 0) (fun _ _ => 0)
  case atStart => exact ⟨rfl, rfl⟩
  case round =>
    obtain ⟨rfl, rfl⟩ := hrel
    go_wp2_with fail
    refine bodyPost_ret (v := .tuple #[.agg #[.int .i64 1, .int .i64 0, .int .i64 0, .string (bs []), .bool false], .int .i64 0]) (by simp [results, Tryz.results27, go_sem] <;> first | done | rfl | exact ⟨rfl, rfl, rfl, rfl, rfl⟩ | exact ⟨rfl, rfl, rfl, rfl⟩ | exact ⟨rfl, rfl, rfl⟩ | exact ⟨rfl, rfl⟩) rfl ⟨rfl, ?_⟩
    go_grown

end Go.Proofs.YtaoobajokhcimaaGreatDoor

/- Casting a right value. -/
import Derived.Test.YtaoobajokhcimaaGreatDoorAtM
import Derived.Test.YtaoobajokhcimaaGreatDoorAtN
import Derived.Test.YtaoobajokhcimaaGreatDoorAtP
set_option linter.unusedSimpArgs false
set_option linter.unusedVariables false
set_option linter.constructorNameAsVariable false
namespace Go.Proofs.YtaoobajokhcimaaGreatDoor
open Go.RowKit

theorem toInt_RA (a : At) (h : RA a) (hk : (a.k == 1) = false) (ht : a.t.size ≤ 2000000) (m : Int) (w : World) (hL : Laid m w) : Calls Tryz.prog 42 #[AV a] w fun e w' =>
    e = .returned (.tuple #[AV (toIntF a).1, .int .i64 (toIntF a).2]) ∧ Below w.heap.size w w' := by
  cases h with
  | int n h => cases hk
  | dec n s h =>
    obtain ⟨s', rfl⟩ : ∃ s' : Nat, s = (s' : Int) := ⟨s.toNat, by have := h.s0; omega⟩
    exact toInt_dec n s' (bs []) false h w
  | str t h => exact toInt_text 3 0 0 t false rfl rfl ht m w hL
  | bool b => exact toInt_bool 0 0 (bs []) b w
  | raw t h => exact toInt_text 5 0 0 t false rfl rfl ht m w hL
theorem toDec_RA (a : At) (h : RA a) (hk : (a.k == 2) = false) (ht : a.t.size ≤ 2000000) (m : Int) (w : World) (hL : Laid m w) : Calls Tryz.prog 43 #[AV a] w fun e w' =>
    e = .returned (.tuple #[AV (toDecF a).1, .int .i64 (toDecF a).2]) ∧ Below w.heap.size w w' := by
  cases h with
  | int n h => exact toDec_int n 0 (bs []) false w
  | dec n s h => cases hk
  | str t h => exact toDec_text 3 0 0 t false rfl rfl ht m w hL
  | bool b => exact toDec_bool 0 0 (bs []) b w
  | raw t h => exact toDec_text 5 0 0 t false rfl rfl ht m w hL
theorem toBool_RA (a : At) (h : RA a) (hk : (a.k == 4) = false) (ht : a.t.size ≤ 2000000) (w : World) : Calls Tryz.prog 44 #[AV a] w fun e w' =>
    e = .returned (.tuple #[AV (toBoolF a).1, .int .i64 (toBoolF a).2]) ∧ Below w.heap.size w w' := by
  cases h with
  | int n h => exact toBool_num 1 n 0 (bs []) false rfl w
  | dec n s h => exact toBool_num 2 n s (bs []) false rfl w
  | str t h => exact toBool_text 3 0 0 t false rfl ht w
  | bool b => cases hk
  | raw t h => exact toBool_text 5 0 0 t false rfl ht w

set_option maxRecDepth 100000 in
theorem cast_1 (k n s : Int) (t : ByteArray) (b : Bool) (ek : (k == 1) = false) (x : At) (r : Int) (w : World)
    (hC : ∀ w', Below w.heap.size w w' → Calls Tryz.prog 42 #[.agg #[.int .i64 k, .int .i64 n, .int .i64 s, .string t, .bool b]] w' fun e w'' => e = .returned (.tuple #[AV x, .int .i64 r]) ∧ Below w'.heap.size w' w'') :
    Calls Tryz.prog 14 #[.agg #[.int .i64 k, .int .i64 n, .int .i64 s, .string t, .bool b], .int .i64 1] w fun e w' => e = .returned (.tuple #[AV x, .int .i64 r]) ∧ Below w.heap.size w w' := by
  have CI := Lib.hid hC
  clear hC
  obtain ⟨xk, xn, xs, xt, xb⟩ := x
  go_enter Tryz.func14, Tryz.ntmps14
  go_wp2_with (first
      | (go_at_call 42; with_reducible refine (CI.out _ (by go_grown)).mono ?_; rintro e w1 ⟨rfl, hb⟩
         have B0 : Blk w1 w.heap.size #[.int .i64 k, .int .i64 n, .int .i64 s, .string t, .bool b] 24 := (Blk.alloc (Blk.here rfl rfl) _).below hb (by simp; omega)
         have B1 : Blk w1 (w.heap.size + 1) #[.int .i64 0, .int .i64 0, .int .i64 0, .string ⟨#[]⟩, .bool false] 24 := (Blk.here rfl (by simp)).below hb (by simp)
         have hw1 : Below w.heap.size w w1 := Below.trans (by go_grown) (hb.mono (by simp; omega))
         have k1 : w.heap.size + 1 < w1.heap.size := B1.lt
         have j1 : w.heap.size < w1.heap.size := B0.lt
         obtain ⟨⟨a0, a1, a2, a3, a4⟩, g0, g1, g2, g3, g4⟩ := B0.five
         obtain ⟨⟨c0, c1, c2, c3, c4⟩, f0, f1, f2, f3, f4⟩ := B1.five
         clear hb))
  refine bodyPost_ret (v := .tuple #[AV ⟨xk, xn, xs, xt, xb⟩, .int .i64 r]) (by simp [results, Tryz.results14, go_sem, c0, c1, c2, c3, c4, f0, f1, f2, f3, f4, k1, j1] <;> first | done | rfl | exact ⟨rfl, rfl, rfl, rfl, rfl⟩ | exact ⟨rfl, rfl, rfl, rfl⟩) rfl ⟨rfl, ?_⟩
  go_grown
  all_goals first | exact hw1 | exact hw1.size
set_option maxRecDepth 100000 in
theorem cast_2 (k n s : Int) (t : ByteArray) (b : Bool) (ek : (k == 2) = false) (x : At) (r : Int) (w : World)
    (hC : ∀ w', Below w.heap.size w w' → Calls Tryz.prog 43 #[.agg #[.int .i64 k, .int .i64 n, .int .i64 s, .string t, .bool b]] w' fun e w'' => e = .returned (.tuple #[AV x, .int .i64 r]) ∧ Below w'.heap.size w' w'') :
    Calls Tryz.prog 14 #[.agg #[.int .i64 k, .int .i64 n, .int .i64 s, .string t, .bool b], .int .i64 2] w fun e w' => e = .returned (.tuple #[AV x, .int .i64 r]) ∧ Below w.heap.size w w' := by
  have CI := Lib.hid hC
  clear hC
  obtain ⟨xk, xn, xs, xt, xb⟩ := x
  go_enter Tryz.func14, Tryz.ntmps14
  go_wp2_with (first
      | (go_at_call 43; with_reducible refine (CI.out _ (by go_grown)).mono ?_; rintro e w1 ⟨rfl, hb⟩
         have B0 : Blk w1 w.heap.size #[.int .i64 k, .int .i64 n, .int .i64 s, .string t, .bool b] 24 := (Blk.alloc (Blk.here rfl rfl) _).below hb (by simp; omega)
         have B1 : Blk w1 (w.heap.size + 1) #[.int .i64 0, .int .i64 0, .int .i64 0, .string ⟨#[]⟩, .bool false] 24 := (Blk.here rfl (by simp)).below hb (by simp)
         have hw1 : Below w.heap.size w w1 := Below.trans (by go_grown) (hb.mono (by simp; omega))
         have k1 : w.heap.size + 1 < w1.heap.size := B1.lt
         have j1 : w.heap.size < w1.heap.size := B0.lt
         obtain ⟨⟨a0, a1, a2, a3, a4⟩, g0, g1, g2, g3, g4⟩ := B0.five
         obtain ⟨⟨c0, c1, c2, c3, c4⟩, f0, f1, f2, f3, f4⟩ := B1.five
         clear hb))
  refine bodyPost_ret (v := .tuple #[AV ⟨xk, xn, xs, xt, xb⟩, .int .i64 r]) (by simp [results, Tryz.results14, go_sem, c0, c1, c2, c3, c4, f0, f1, f2, f3, f4, k1, j1] <;> first | done | rfl | exact ⟨rfl, rfl, rfl, rfl, rfl⟩ | exact ⟨rfl, rfl, rfl, rfl⟩) rfl ⟨rfl, ?_⟩
  go_grown
  all_goals first | exact hw1 | exact hw1.size
set_option maxRecDepth 100000 in
theorem cast_4 (k n s : Int) (t : ByteArray) (b : Bool) (ek : (k == 4) = false) (x : At) (r : Int) (w : World)
    (hC : ∀ w', Below w.heap.size w w' → Calls Tryz.prog 44 #[.agg #[.int .i64 k, .int .i64 n, .int .i64 s, .string t, .bool b]] w' fun e w'' => e = .returned (.tuple #[AV x, .int .i64 r]) ∧ Below w'.heap.size w' w'') :
    Calls Tryz.prog 14 #[.agg #[.int .i64 k, .int .i64 n, .int .i64 s, .string t, .bool b], .int .i64 4] w fun e w' => e = .returned (.tuple #[AV x, .int .i64 r]) ∧ Below w.heap.size w w' := by
  have CI := Lib.hid hC
  clear hC
  obtain ⟨xk, xn, xs, xt, xb⟩ := x
  go_enter Tryz.func14, Tryz.ntmps14
  go_wp2_with (first
      | (go_at_call 44; with_reducible refine (CI.out _ (by go_grown)).mono ?_; rintro e w1 ⟨rfl, hb⟩
         have B0 : Blk w1 w.heap.size #[.int .i64 k, .int .i64 n, .int .i64 s, .string t, .bool b] 24 := (Blk.alloc (Blk.here rfl rfl) _).below hb (by simp; omega)
         have B1 : Blk w1 (w.heap.size + 1) #[.int .i64 0, .int .i64 0, .int .i64 0, .string ⟨#[]⟩, .bool false] 24 := (Blk.here rfl (by simp)).below hb (by simp)
         have hw1 : Below w.heap.size w w1 := Below.trans (by go_grown) (hb.mono (by simp; omega))
         have k1 : w.heap.size + 1 < w1.heap.size := B1.lt
         have j1 : w.heap.size < w1.heap.size := B0.lt
         obtain ⟨⟨a0, a1, a2, a3, a4⟩, g0, g1, g2, g3, g4⟩ := B0.five
         obtain ⟨⟨c0, c1, c2, c3, c4⟩, f0, f1, f2, f3, f4⟩ := B1.five
         clear hb))
  refine bodyPost_ret (v := .tuple #[AV ⟨xk, xn, xs, xt, xb⟩, .int .i64 r]) (by simp [results, Tryz.results14, go_sem, c0, c1, c2, c3, c4, f0, f1, f2, f3, f4, k1, j1] <;> first | done | rfl | exact ⟨rfl, rfl, rfl, rfl, rfl⟩ | exact ⟨rfl, rfl, rfl, rfl⟩) rfl ⟨rfl, ?_⟩
  go_grown
  all_goals first | exact hw1 | exact hw1.size
set_option maxRecDepth 100000 in
theorem cast_3 (k n s : Int) (t : ByteArray) (b : Bool) (ek : (k == 3) = false) (T : ByteArray) (w : World)
    (hC : ∀ w', Below w.heap.size w w' → Calls Tryz.prog 25 #[.agg #[.int .i64 k, .int .i64 n, .int .i64 s, .string t, .bool b]] w' fun e w'' => e = .returned (.string T) ∧ Below w'.heap.size w' w'') :
    Calls Tryz.prog 14 #[.agg #[.int .i64 k, .int .i64 n, .int .i64 s, .string t, .bool b], .int .i64 3] w fun e w' => e = .returned (.tuple #[.agg #[.int .i64 3, .int .i64 0, .int .i64 0, .string T, .bool false], .int .i64 0]) ∧ Below w.heap.size w w' := by
  have CI := Lib.hid hC
  have CO := Lib.hid (fun w => text_any T w)
  clear hC
  go_enter Tryz.func14, Tryz.ntmps14
  go_wp2_with (first
      | (go_at_call 25; with_reducible refine (CI.out _ (by go_grown)).mono ?_; rintro e w1 ⟨rfl, hb⟩
         have B0 : Blk w1 w.heap.size #[.int .i64 k, .int .i64 n, .int .i64 s, .string t, .bool b] 24 := (Blk.alloc (Blk.here rfl rfl) _).below hb (by simp; omega)
         have B1 : Blk w1 (w.heap.size + 1) #[.int .i64 0, .int .i64 0, .int .i64 0, .string ⟨#[]⟩, .bool false] 24 := (Blk.here rfl (by simp)).below hb (by simp)
         have hw1 : Below w.heap.size w w1 := Below.trans (by go_grown) (hb.mono (by simp; omega))
         have k1 : w.heap.size + 1 < w1.heap.size := B1.lt
         have j1 : w.heap.size < w1.heap.size := B0.lt
         obtain ⟨⟨a0, a1, a2, a3, a4⟩, g0, g1, g2, g3, g4⟩ := B0.five
         obtain ⟨⟨c0, c1, c2, c3, c4⟩, f0, f1, f2, f3, f4⟩ := B1.five
         clear hb)
      | (go_at_call 21; with_reducible refine (CO.out _).mono ?_; rintro e w2 ⟨rfl, hb⟩
         have B0' := B0.below hb B0.lt
         have B1' := B1.below hb B1.lt
         have hw2 : Below w.heap.size w w2 := hw1.trans (hb.mono hw1.size)
         clear B0 B1 a0 a1 a2 a3 a4 g0 g1 g2 g3 g4 c0 c1 c2 c3 c4 f0 f1 f2 f3 f4
         have B0 := B0'
         have B1 := B1'
         clear B0' B1'
         have k2 : w.heap.size + 1 < w2.heap.size := B1.lt
         have j2 : w.heap.size < w2.heap.size := B0.lt
         obtain ⟨⟨a0, a1, a2, a3, a4⟩, g0, g1, g2, g3, g4⟩ := B0.five
         obtain ⟨⟨c0, c1, c2, c3, c4⟩, f0, f1, f2, f3, f4⟩ := B1.five
         clear hb))
  refine bodyPost_ret (v := .tuple #[.agg #[.int .i64 3, .int .i64 0, .int .i64 0, .string T, .bool false], .int .i64 0]) (by simp [results, Tryz.results14, go_sem, c0, c1, c2, c3, c4, f0, f1, f2, f3, f4, k2, j2] <;> first | done | rfl | exact ⟨rfl, rfl, rfl, rfl, rfl⟩ | exact ⟨rfl, rfl, rfl, rfl⟩) rfl ⟨rfl, ?_⟩
  go_grown
  all_goals first | exact hw2 | exact hw2.size
set_option maxRecDepth 100000 in
theorem cast_5 (k n s : Int) (t : ByteArray) (b : Bool) (ek : (k == 5) = false) (T : ByteArray) (w : World)
    (hC : ∀ w', Below w.heap.size w w' → Calls Tryz.prog 25 #[.agg #[.int .i64 k, .int .i64 n, .int .i64 s, .string t, .bool b]] w' fun e w'' => e = .returned (.string T) ∧ Below w'.heap.size w' w'') :
    Calls Tryz.prog 14 #[.agg #[.int .i64 k, .int .i64 n, .int .i64 s, .string t, .bool b], .int .i64 5] w fun e w' => e = .returned (.tuple #[.agg #[.int .i64 5, .int .i64 0, .int .i64 0, .string T, .bool false], .int .i64 0]) ∧ Below w.heap.size w w' := by
  have CI := Lib.hid hC
  have CO := Lib.hid (fun w => raw_any T w)
  clear hC
  go_enter Tryz.func14, Tryz.ntmps14
  go_wp2_with (first
      | (go_at_call 25; with_reducible refine (CI.out _ (by go_grown)).mono ?_; rintro e w1 ⟨rfl, hb⟩
         have B0 : Blk w1 w.heap.size #[.int .i64 k, .int .i64 n, .int .i64 s, .string t, .bool b] 24 := (Blk.alloc (Blk.here rfl rfl) _).below hb (by simp; omega)
         have B1 : Blk w1 (w.heap.size + 1) #[.int .i64 0, .int .i64 0, .int .i64 0, .string ⟨#[]⟩, .bool false] 24 := (Blk.here rfl (by simp)).below hb (by simp)
         have hw1 : Below w.heap.size w w1 := Below.trans (by go_grown) (hb.mono (by simp; omega))
         have k1 : w.heap.size + 1 < w1.heap.size := B1.lt
         have j1 : w.heap.size < w1.heap.size := B0.lt
         obtain ⟨⟨a0, a1, a2, a3, a4⟩, g0, g1, g2, g3, g4⟩ := B0.five
         obtain ⟨⟨c0, c1, c2, c3, c4⟩, f0, f1, f2, f3, f4⟩ := B1.five
         clear hb)
      | (go_at_call 22; with_reducible refine (CO.out _).mono ?_; rintro e w2 ⟨rfl, hb⟩
         have B0' := B0.below hb B0.lt
         have B1' := B1.below hb B1.lt
         have hw2 : Below w.heap.size w w2 := hw1.trans (hb.mono hw1.size)
         clear B0 B1 a0 a1 a2 a3 a4 g0 g1 g2 g3 g4 c0 c1 c2 c3 c4 f0 f1 f2 f3 f4
         have B0 := B0'
         have B1 := B1'
         clear B0' B1'
         have k2 : w.heap.size + 1 < w2.heap.size := B1.lt
         have j2 : w.heap.size < w2.heap.size := B0.lt
         obtain ⟨⟨a0, a1, a2, a3, a4⟩, g0, g1, g2, g3, g4⟩ := B0.five
         obtain ⟨⟨c0, c1, c2, c3, c4⟩, f0, f1, f2, f3, f4⟩ := B1.five
         clear hb))
  refine bodyPost_ret (v := .tuple #[.agg #[.int .i64 5, .int .i64 0, .int .i64 0, .string T, .bool false], .int .i64 0]) (by simp [results, Tryz.results14, go_sem, c0, c1, c2, c3, c4, f0, f1, f2, f3, f4, k2, j2] <;> first | done | rfl | exact ⟨rfl, rfl, rfl, rfl, rfl⟩ | exact ⟨rfl, rfl, rfl, rfl⟩) rfl ⟨rfl, ?_⟩
  go_grown
  all_goals first | exact hw2 | exact hw2.size
theorem cast_arg (k n s : Int) (t : ByteArray) (b : Bool) (tk : Int) (h : (decide (tk < 1) || decide (6 ≤ tk)) = true) (w : World) :
    Calls Tryz.prog 14 #[.agg #[.int .i64 k, .int .i64 n, .int .i64 s, .string t, .bool b], .int .i64 tk] w fun e w' => e = .returned (.tuple #[AV zeroA, .int .i64 2]) ∧ Below w.heap.size w w' := by
  cases e1 : decide (tk < 1)
  · rw [e1] at h
    have e2 : decide (6 ≤ tk) = true := h
    go_enter Tryz.func14, Tryz.ntmps14
    go_wp2_with fail
    refine bodyPost_ret (v := .tuple #[AV zeroA, .int .i64 2]) (by simp [results, Tryz.results14, go_sem] <;> first | done | rfl | exact ⟨rfl, rfl, rfl, rfl, rfl⟩ | exact ⟨rfl, rfl, rfl, rfl⟩) rfl ⟨rfl, ?_⟩
    go_grown
  · go_enter Tryz.func14, Tryz.ntmps14
    go_wp2_with fail
    refine bodyPost_ret (v := .tuple #[AV zeroA, .int .i64 2]) (by simp [results, Tryz.results14, go_sem] <;> first | done | rfl | exact ⟨rfl, rfl, rfl, rfl, rfl⟩ | exact ⟨rfl, rfl, rfl, rfl⟩) rfl ⟨rfl, ?_⟩
    go_grown
theorem cast_same (k n s : Int) (t : ByteArray) (b : Bool) (h : (decide (k < 1) || decide (6 ≤ k)) = false) (w : World) :
    Calls Tryz.prog 14 #[.agg #[.int .i64 k, .int .i64 n, .int .i64 s, .string t, .bool b], .int .i64 k] w fun e w' => e = .returned (.tuple #[.agg #[.int .i64 k, .int .i64 n, .int .i64 s, .string t, .bool b], .int .i64 0]) ∧ Below w.heap.size w w' := by
  simp only [Bool.or_eq_false_iff] at h
  obtain ⟨e1, e2⟩ := h
  have e3 : (k == k) = true := by simp
  go_enter Tryz.func14, Tryz.ntmps14
  go_wp2_with fail
  refine bodyPost_ret (v := .tuple #[.agg #[.int .i64 k, .int .i64 n, .int .i64 s, .string t, .bool b], .int .i64 0]) (by simp [results, Tryz.results14, go_sem] <;> first | done | rfl | exact ⟨rfl, rfl, rfl, rfl, rfl⟩ | exact ⟨rfl, rfl, rfl, rfl⟩) rfl ⟨rfl, ?_⟩
  go_grown
/-- A cast of a right value. -/
theorem cast_any (a : At) (h : RA a) (ht : a.t.size ≤ 2000000) (tk : Int) (m : Int) (w : World) (hL : Laid m w) : Calls Tryz.prog 14 #[AV a, .int .i64 tk] w fun e w' =>
    e = .returned (.tuple #[AV (castF a tk).1, .int .i64 (castF a tk).2]) ∧ Below w.heap.size w w' := by
  cases htk : (decide (tk < 1) || decide (6 ≤ tk))
  · cases ek : (a.k == tk)
    · have hc : castF a tk = if tk == 1 then toIntF a else if tk == 2 then toDecF a else if tk == 4 then toBoolF a else if tk == 3 then (textA (textF a), 0) else (rawA (textF a), 0) := by
        unfold castF
        rw [htk, ek]
        rfl
      have h5 : tk = 1 ∨ tk = 2 ∨ tk = 3 ∨ tk = 4 ∨ tk = 5 := by
        simp only [Bool.or_eq_false_iff, decide_eq_false_iff_not] at htk
        omega
      rcases h5 with rfl | rfl | rfl | rfl | rfl
      · rw [hc]
        exact cast_1 _ _ _ _ _ ek _ _ w fun w' hb => toInt_RA a h ek ht m w' (hL.on hb)
      · rw [hc]
        exact cast_2 _ _ _ _ _ ek _ _ w fun w' hb => toDec_RA a h ek ht m w' (hL.on hb)
      · rw [hc]
        exact cast_3 _ _ _ _ _ ek _ w fun w' hb => string_any a h m w' (hL.on hb)
      · rw [hc]
        exact cast_4 _ _ _ _ _ ek _ _ w fun w' hb => toBool_RA a h ek ht w'
      · rw [hc]
        exact cast_5 _ _ _ _ _ ek _ w fun w' hb => string_any a h m w' (hL.on hb)
    · have hk : a.k = tk := by simpa using ek
      subst hk
      have hc : castF a a.k = (a, 0) := by
        unfold castF
        rw [htk, ek]
        rfl
      rw [hc]
      exact cast_same _ _ _ _ _ htk w
  · have hc : castF a tk = (zeroA, 2) := by
      unfold castF
      rw [htk]
      rfl
    rw [hc]
    exact cast_arg _ _ _ _ _ tk htk w

end Go.Proofs.YtaoobajokhcimaaGreatDoor

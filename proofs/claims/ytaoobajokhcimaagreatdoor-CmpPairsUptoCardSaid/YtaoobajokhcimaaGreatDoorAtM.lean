/- Casts of atomic values: texts to numbers; to truth values; what a value's text is. -/
import Derived.Test.YtaoobajokhcimaaGreatDoorAtL
set_option linter.unusedSimpArgs false
set_option linter.unusedVariables false
set_option linter.constructorNameAsVariable false
namespace Go.Proofs.YtaoobajokhcimaaGreatDoor
open Go.RowKit

set_option maxRecDepth 100000 in
set_option maxHeartbeats 1000000 in
theorem toInt_text (k n s : Int) (t : ByteArray) (b : Bool) (e2 : (k == 2) = false) (e4 : (k == 4) = false) (ht : t.size ≤ 2000000) (m : Int) (w : World) (hL : Laid m w) : Calls Tryz.prog 42 #[.agg #[.int .i64 k, .int .i64 n, .int .i64 s, .string t, .bool b]] w fun e w' =>
    e = .returned (.tuple #[AV (toIntF ⟨k, n, s, t, b⟩).1, .int .i64 (toIntF ⟨k, n, s, t, b⟩).2]) ∧ Below w.heap.size w w' := by
  have CC := Lib.hid (fun w => Tryz.strings_Contains_one t 46 w)
  rw [contains46] at CC
  have CN := Lib.hid (fun w' (hb : Below w.heap.size w w') => anumber_any t ht m w' (hL.on hb))
  have CO := Lib.hid (fun x w => of_any x w)
  have hF : toIntF ⟨k, n, s, t, b⟩ = if t.data.toList.contains 46 then (zeroA, 50) else if (numberF t).2.2 == 0 then (ofA (numberF t).1, 0) else (zeroA, (numberF t).2.2) := by unfold toIntF; simp only [e2, e4]; rfl
  rw [hF]
  clear hF hL ht
  obtain ⟨p, q, r, hr⟩ : ∃ p q r, numberF t = (p, q, r) := ⟨_, _, _, rfl⟩
  rw [hr] at CN ⊢
  clear hr
  simp only at CN ⊢
  cases e46 : t.data.toList.contains 46
  · rw [e46] at CC
    have ef : (false : Bool) = true ↔ False := by simp
    simp only [ef, if_false]
    cases e0 : (r == 0)
    · have en : (r != 0) = true := by unfold bne; rw [e0]; rfl
      simp only [ef, if_false]
      go_enter Tryz.func42, Tryz.ntmps42
      go_wp2_with (first
      | (go_at_call 70; with_reducible refine (CC.out _).mono ?_; rintro e w1 ⟨rfl, rfl⟩)
      | (go_at_call 71; with_reducible refine (CN.out _ (by go_grown)).mono ?_; rintro e w1 ⟨rfl, hb⟩
         have B0 : Blk w1 w.heap.size #[.int .i64 k, .int .i64 n, .int .i64 s, .string t, .bool b] 24 := (Blk.alloc (Blk.here rfl rfl) _).below hb (by simp; omega)
         have B1 : Blk w1 (w.heap.size + 1) #[.int .i64 0, .int .i64 0, .int .i64 0, .string ⟨#[]⟩, .bool false] 24 := (Blk.here rfl (by simp)).below hb (by simp)
         have hw1 : Below w.heap.size w w1 := Below.trans (by go_grown) (hb.mono (by simp; omega))
         have k1 : w.heap.size + 1 < w1.heap.size := B1.lt
         have j1 : w.heap.size < w1.heap.size := B0.lt
         obtain ⟨⟨a0, a1, a2, a3, a4⟩, g0, g1, g2, g3, g4⟩ := B0.five
         obtain ⟨⟨c0, c1, c2, c3, c4⟩, f0, f1, f2, f3, f4⟩ := B1.five
         clear hb))
      refine bodyPost_ret (v := .tuple #[AV zeroA, .int .i64 r]) (by simp [results, Tryz.results42, go_sem, c0, c1, c2, c3, c4, f0, f1, f2, f3, f4, k1, j1] <;> first | done | rfl | exact ⟨rfl, rfl, rfl, rfl, rfl⟩ | exact ⟨rfl, rfl, rfl, rfl⟩) rfl ⟨rfl, ?_⟩
      go_grown
      all_goals first | exact hw1 | exact hw1.size
    · have en : (r != 0) = false := by unfold bne; rw [e0]; rfl
      simp only [if_true]
      go_enter Tryz.func42, Tryz.ntmps42
      go_wp2_with (first
      | (go_at_call 70; with_reducible refine (CC.out _).mono ?_; rintro e w1 ⟨rfl, rfl⟩)
      | (go_at_call 71; with_reducible refine (CN.out _ (by go_grown)).mono ?_; rintro e w1 ⟨rfl, hb⟩
         have B0 : Blk w1 w.heap.size #[.int .i64 k, .int .i64 n, .int .i64 s, .string t, .bool b] 24 := (Blk.alloc (Blk.here rfl rfl) _).below hb (by simp; omega)
         have B1 : Blk w1 (w.heap.size + 1) #[.int .i64 0, .int .i64 0, .int .i64 0, .string ⟨#[]⟩, .bool false] 24 := (Blk.here rfl (by simp)).below hb (by simp)
         have hw1 : Below w.heap.size w w1 := Below.trans (by go_grown) (hb.mono (by simp; omega))
         have k1 : w.heap.size + 1 < w1.heap.size := B1.lt
         have j1 : w.heap.size < w1.heap.size := B0.lt
         obtain ⟨⟨a0, a1, a2, a3, a4⟩, g0, g1, g2, g3, g4⟩ := B0.five
         obtain ⟨⟨c0, c1, c2, c3, c4⟩, f0, f1, f2, f3, f4⟩ := B1.five
         clear hb)
      | (go_at_call 19; with_reducible refine (CO.out _ _).mono ?_; rintro e w2 ⟨rfl, hb⟩
         have B0' := (B0.alloc _).below hb (B0.alloc _).lt
         have B1' := (B1.alloc _).below hb (B1.alloc _).lt
         have hw2 : Below w.heap.size w w2 := (hw1.alloc hw1.size _).trans (hb.mono (by have := hw1.size; simp; omega))
         clear B0 B1 a0 a1 a2 a3 a4 g0 g1 g2 g3 g4 c0 c1 c2 c3 c4 f0 f1 f2 f3 f4
         have B0 := B0'
         have B1 := B1'
         clear B0' B1'
         have k2 : w.heap.size + 1 < w2.heap.size := B1.lt
         have j2 : w.heap.size < w2.heap.size := B0.lt
         obtain ⟨⟨a0, a1, a2, a3, a4⟩, g0, g1, g2, g3, g4⟩ := B0.five
         obtain ⟨⟨c0, c1, c2, c3, c4⟩, f0, f1, f2, f3, f4⟩ := B1.five
         clear hb))
      refine bodyPost_ret (v := .tuple #[AV (ofA p), .int .i64 0]) (by simp [results, Tryz.results42, go_sem, c0, c1, c2, c3, c4, f0, f1, f2, f3, f4, k2, j2] <;> first | done | rfl | exact ⟨rfl, rfl, rfl, rfl, rfl⟩ | exact ⟨rfl, rfl, rfl, rfl⟩) rfl ⟨rfl, ?_⟩
      go_grown
      all_goals first | exact hw2 | exact hw2.size
  · rw [e46] at CC
    simp only [if_true]
    have CZ : True := trivial
    go_enter Tryz.func42, Tryz.ntmps42
    go_wp2_with (go_at_call 70; with_reducible refine (CC.out _).mono ?_; rintro e w1 ⟨rfl, rfl⟩)
    refine bodyPost_ret (v := .tuple #[AV zeroA, .int .i64 50]) (by simp [results, Tryz.results42, go_sem] <;> first | done | rfl | exact ⟨rfl, rfl, rfl, rfl, rfl⟩ | exact ⟨rfl, rfl, rfl, rfl⟩) rfl ⟨rfl, ?_⟩
    go_grown

set_option maxRecDepth 100000 in
set_option maxHeartbeats 1000000 in
theorem toDec_int (n s : Int) (t : ByteArray) (b : Bool) (w : World) : Calls Tryz.prog 43 #[.agg #[.int .i64 1, .int .i64 n, .int .i64 s, .string t, .bool b]] w fun e w' =>
    e = .returned (.tuple #[.agg #[.int .i64 2, .int .i64 n, .int .i64 0, .string (bs []), .bool false], .int .i64 0]) ∧ Below w.heap.size w w' := by
  have CN := Lib.hid (fun w => num_is 1 n s t b n 0 rfl w)
  have CO := Lib.hid (fun w => number_of_any n 0 w)
  go_enter Tryz.func43, Tryz.ntmps43
  go_wp2_with (first
      | (go_at_call 16; with_reducible refine (CN.out _).mono ?_; rintro e w1 ⟨rfl, hb⟩
         have B0 : Blk w1 w.heap.size #[.int .i64 1, .int .i64 n, .int .i64 s, .string t, .bool b] 24 := (Blk.alloc (Blk.here rfl rfl) _).below hb (by simp; omega)
         have B1 : Blk w1 (w.heap.size + 1) #[.int .i64 0, .int .i64 0, .int .i64 0, .string ⟨#[]⟩, .bool false] 24 := (Blk.here rfl (by simp)).below hb (by simp)
         have hw1 : Below w.heap.size w w1 := Below.trans (by go_grown) (hb.mono (by simp; omega))
         have k1 : w.heap.size + 1 < w1.heap.size := B1.lt
         have j1 : w.heap.size < w1.heap.size := B0.lt
         obtain ⟨⟨a0, a1, a2, a3, a4⟩, g0, g1, g2, g3, g4⟩ := B0.five
         obtain ⟨⟨c0, c1, c2, c3, c4⟩, f0, f1, f2, f3, f4⟩ := B1.five
         clear hb)
      | (go_at_call 24; with_reducible refine (CO.out _).mono ?_; rintro e w2 ⟨rfl, hb⟩
         have B0' := B0.below hb B0.lt
         have B1' := B1.below hb B1.lt
         have hw2 : Below w.heap.size w w2 := hw1.trans (hb.mono hw1.size)
         clear B0 B1 a0 a1 a2 a3 a4 g0 g1 g2 g3 g4 c0 c1 c2 c3 c4 f0 f1 f2 f3 f4
         have B0 := B0'
         have B1 := B1'
         clear B0' B1'
         have k2 : w.heap.size + 1 < w2.heap.size := B1.lt
         have j2 : w.heap.size < w2.heap.size := B0.lt
         obtain ⟨⟨a0, a1, a2, a3, a4⟩, g0, g1, g2, g3, g4⟩ := B0.five
         obtain ⟨⟨c0, c1, c2, c3, c4⟩, f0, f1, f2, f3, f4⟩ := B1.five
         clear hb))
  refine bodyPost_ret (v := .tuple #[.agg #[.int .i64 2, .int .i64 n, .int .i64 0, .string (bs []), .bool false], .int .i64 0]) (by simp [results, Tryz.results43, go_sem, c0, c1, c2, c3, c4, f0, f1, f2, f3, f4, k2, j2] <;> first | done | rfl | exact ⟨rfl, rfl, rfl, rfl, rfl⟩ | exact ⟨rfl, rfl, rfl, rfl⟩) rfl ⟨rfl, ?_⟩
  go_grown
  all_goals first | exact hw2 | exact hw2.size
set_option maxRecDepth 100000 in
set_option maxHeartbeats 1000000 in
theorem toDec_bool (n s : Int) (t : ByteArray) (b : Bool) (w : World) : Calls Tryz.prog 43 #[.agg #[.int .i64 4, .int .i64 n, .int .i64 s, .string t, .bool b]] w fun e w' =>
    e = .returned (.tuple #[.agg #[.int .i64 2, .int .i64 (if b then 1 else 0), .int .i64 0, .string (bs []), .bool false], .int .i64 0]) ∧ Below w.heap.size w w' := by
  have CI := Lib.hid (fun w => toInt_bool n s t b w)
  generalize (if b then (1 : Int) else 0) = x at *
  have CN := Lib.hid (fun w => num_is 1 x 0 (bs []) false x 0 rfl w)
  have CO := Lib.hid (fun w => number_of_any x 0 w)
  go_enter Tryz.func43, Tryz.ntmps43
  go_wp2_with (first
      | (go_at_call 42; with_reducible refine (CI.out _).mono ?_; rintro e w1 ⟨rfl, hb⟩
         have B0 : Blk w1 w.heap.size #[.int .i64 4, .int .i64 n, .int .i64 s, .string t, .bool b] 24 := (Blk.alloc (Blk.here rfl rfl) _).below hb (by simp; omega)
         have B1 : Blk w1 (w.heap.size + 1) #[.int .i64 0, .int .i64 0, .int .i64 0, .string ⟨#[]⟩, .bool false] 24 := (Blk.here rfl (by simp)).below hb (by simp)
         have hw1 : Below w.heap.size w w1 := Below.trans (by go_grown) (hb.mono (by simp; omega))
         have k1 : w.heap.size + 1 < w1.heap.size := B1.lt
         have j1 : w.heap.size < w1.heap.size := B0.lt
         obtain ⟨⟨a0, a1, a2, a3, a4⟩, g0, g1, g2, g3, g4⟩ := B0.five
         obtain ⟨⟨c0, c1, c2, c3, c4⟩, f0, f1, f2, f3, f4⟩ := B1.five
         clear hb)
      | (go_at_call 16; with_reducible refine (CN.out _).mono ?_; rintro e w2 ⟨rfl, hb⟩
         have B0' := (B0.alloc _).below hb (B0.alloc _).lt
         have B1' := (B1.alloc _).below hb (B1.alloc _).lt
         have hw2 : Below w.heap.size w w2 := (hw1.alloc hw1.size _).trans (hb.mono (by have := hw1.size; simp; omega))
         clear B0 B1 a0 a1 a2 a3 a4 g0 g1 g2 g3 g4 c0 c1 c2 c3 c4 f0 f1 f2 f3 f4
         have B0 := B0'
         have B1 := B1'
         clear B0' B1'
         have k2 : w.heap.size + 1 < w2.heap.size := B1.lt
         have j2 : w.heap.size < w2.heap.size := B0.lt
         obtain ⟨⟨a0, a1, a2, a3, a4⟩, g0, g1, g2, g3, g4⟩ := B0.five
         obtain ⟨⟨c0, c1, c2, c3, c4⟩, f0, f1, f2, f3, f4⟩ := B1.five
         clear hb)
      | (go_at_call 24; with_reducible refine (CO.out _).mono ?_; rintro e w3 ⟨rfl, hb⟩
         have B0' := B0.below hb B0.lt
         have B1' := B1.below hb B1.lt
         have hw3 : Below w.heap.size w w3 := hw2.trans (hb.mono hw2.size)
         clear B0 B1 a0 a1 a2 a3 a4 g0 g1 g2 g3 g4 c0 c1 c2 c3 c4 f0 f1 f2 f3 f4
         have B0 := B0'
         have B1 := B1'
         clear B0' B1'
         have k3 : w.heap.size + 1 < w3.heap.size := B1.lt
         have j3 : w.heap.size < w3.heap.size := B0.lt
         obtain ⟨⟨a0, a1, a2, a3, a4⟩, g0, g1, g2, g3, g4⟩ := B0.five
         obtain ⟨⟨c0, c1, c2, c3, c4⟩, f0, f1, f2, f3, f4⟩ := B1.five
         clear hb))
  refine bodyPost_ret (v := .tuple #[.agg #[.int .i64 2, .int .i64 x, .int .i64 0, .string (bs []), .bool false], .int .i64 0]) (by simp [results, Tryz.results43, go_sem, c0, c1, c2, c3, c4, f0, f1, f2, f3, f4, k3, j3] <;> first | done | rfl | exact ⟨rfl, rfl, rfl, rfl, rfl⟩ | exact ⟨rfl, rfl, rfl, rfl⟩) rfl ⟨rfl, ?_⟩
  go_grown
  all_goals first | exact hw3 | exact hw3.size
set_option maxRecDepth 100000 in
set_option maxHeartbeats 1000000 in
theorem toDec_text (k n s : Int) (t : ByteArray) (b : Bool) (e1 : (k == 1) = false) (e4 : (k == 4) = false) (ht : t.size ≤ 2000000) (m : Int) (w : World) (hL : Laid m w) : Calls Tryz.prog 43 #[.agg #[.int .i64 k, .int .i64 n, .int .i64 s, .string t, .bool b]] w fun e w' =>
    e = .returned (.tuple #[AV (toDecF ⟨k, n, s, t, b⟩).1, .int .i64 (toDecF ⟨k, n, s, t, b⟩).2]) ∧ Below w.heap.size w w' := by
  have CN := Lib.hid (fun w' (hb : Below w.heap.size w w') => anumber_any t ht m w' (hL.on hb))
  have CO := Lib.hid (fun x y w => number_of_any x y w)
  have hF : toDecF ⟨k, n, s, t, b⟩ = if (numberF t).2.2 == 0 then (numA (numberF t).1 (numberF t).2.1, 0) else (zeroA, (numberF t).2.2) := by unfold toDecF; simp only [e1, e4]; rfl
  rw [hF]
  clear hF hL ht
  obtain ⟨p, q, r, hr⟩ : ∃ p q r, numberF t = (p, q, r) := ⟨_, _, _, rfl⟩
  rw [hr] at CN ⊢
  clear hr
  simp only at CN ⊢
  have ef : (false : Bool) = true ↔ False := by simp
  cases e0 : (r == 0)
  · have en : (r != 0) = true := by unfold bne; rw [e0]; rfl
    simp only [ef, if_false]
    go_enter Tryz.func43, Tryz.ntmps43
    go_wp2_with (first
      | (go_at_call 71; with_reducible refine (CN.out _ (by go_grown)).mono ?_; rintro e w1 ⟨rfl, hb⟩
         have B0 : Blk w1 w.heap.size #[.int .i64 k, .int .i64 n, .int .i64 s, .string t, .bool b] 24 := (Blk.alloc (Blk.here rfl rfl) _).below hb (by simp; omega)
         have B1 : Blk w1 (w.heap.size + 1) #[.int .i64 0, .int .i64 0, .int .i64 0, .string ⟨#[]⟩, .bool false] 24 := (Blk.here rfl (by simp)).below hb (by simp)
         have hw1 : Below w.heap.size w w1 := Below.trans (by go_grown) (hb.mono (by simp; omega))
         have k1 : w.heap.size + 1 < w1.heap.size := B1.lt
         have j1 : w.heap.size < w1.heap.size := B0.lt
         obtain ⟨⟨a0, a1, a2, a3, a4⟩, g0, g1, g2, g3, g4⟩ := B0.five
         obtain ⟨⟨c0, c1, c2, c3, c4⟩, f0, f1, f2, f3, f4⟩ := B1.five
         clear hb))
    refine bodyPost_ret (v := .tuple #[AV zeroA, .int .i64 r]) (by simp [results, Tryz.results43, go_sem, c0, c1, c2, c3, c4, f0, f1, f2, f3, f4, k1, j1] <;> first | done | rfl | exact ⟨rfl, rfl, rfl, rfl, rfl⟩ | exact ⟨rfl, rfl, rfl, rfl⟩) rfl ⟨rfl, ?_⟩
    go_grown
    all_goals first | exact hw1 | exact hw1.size
  · have en : (r != 0) = false := by unfold bne; rw [e0]; rfl
    simp only [if_true]
    go_enter Tryz.func43, Tryz.ntmps43
    go_wp2_with (first
      | (go_at_call 71; with_reducible refine (CN.out _ (by go_grown)).mono ?_; rintro e w1 ⟨rfl, hb⟩
         have B0 : Blk w1 w.heap.size #[.int .i64 k, .int .i64 n, .int .i64 s, .string t, .bool b] 24 := (Blk.alloc (Blk.here rfl rfl) _).below hb (by simp; omega)
         have B1 : Blk w1 (w.heap.size + 1) #[.int .i64 0, .int .i64 0, .int .i64 0, .string ⟨#[]⟩, .bool false] 24 := (Blk.here rfl (by simp)).below hb (by simp)
         have hw1 : Below w.heap.size w w1 := Below.trans (by go_grown) (hb.mono (by simp; omega))
         have k1 : w.heap.size + 1 < w1.heap.size := B1.lt
         have j1 : w.heap.size < w1.heap.size := B0.lt
         obtain ⟨⟨a0, a1, a2, a3, a4⟩, g0, g1, g2, g3, g4⟩ := B0.five
         obtain ⟨⟨c0, c1, c2, c3, c4⟩, f0, f1, f2, f3, f4⟩ := B1.five
         clear hb)
      | (go_at_call 24; with_reducible refine (CO.out _ _ _).mono ?_; rintro e w2 ⟨rfl, hb⟩
         have B0' := (B0.alloc _).below hb (B0.alloc _).lt
         have B1' := (B1.alloc _).below hb (B1.alloc _).lt
         have hw2 : Below w.heap.size w w2 := (hw1.alloc hw1.size _).trans (hb.mono (by have := hw1.size; simp; omega))
         clear B0 B1 a0 a1 a2 a3 a4 g0 g1 g2 g3 g4 c0 c1 c2 c3 c4 f0 f1 f2 f3 f4
         have B0 := B0'
         have B1 := B1'
         clear B0' B1'
         have k2 : w.heap.size + 1 < w2.heap.size := B1.lt
         have j2 : w.heap.size < w2.heap.size := B0.lt
         obtain ⟨⟨a0, a1, a2, a3, a4⟩, g0, g1, g2, g3, g4⟩ := B0.five
         obtain ⟨⟨c0, c1, c2, c3, c4⟩, f0, f1, f2, f3, f4⟩ := B1.five
         clear hb))
    refine bodyPost_ret (v := .tuple #[AV (numA p q), .int .i64 0]) (by simp [results, Tryz.results43, go_sem, c0, c1, c2, c3, c4, f0, f1, f2, f3, f4, k2, j2] <;> first | done | rfl | exact ⟨rfl, rfl, rfl, rfl, rfl⟩ | exact ⟨rfl, rfl, rfl, rfl⟩) rfl ⟨rfl, ?_⟩
    go_grown
    all_goals first | exact hw2 | exact hw2.size

end Go.Proofs.YtaoobajokhcimaaGreatDoor

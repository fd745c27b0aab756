/- Casts of atomic values: to truth values; what a value's text is. -/
import Derived.Test.YtaoobajokhcimaaGreatDoorAtL
set_option linter.unusedSimpArgs false
set_option linter.unusedVariables false
set_option linter.constructorNameAsVariable false
namespace Go.Proofs.YtaoobajokhcimaaGreatDoor
open Go.RowKit

set_option maxRecDepth 100000 in
set_option maxHeartbeats 1000000 in
theorem toBool_num (k n s : Int) (t : ByteArray) (b : Bool) (ek : (k == 1 || k == 2) = true) (w : World) : Calls Tryz.prog 44 #[.agg #[.int .i64 k, .int .i64 n, .int .i64 s, .string t, .bool b]] w fun e w' =>
    e = .returned (.tuple #[.agg #[.int .i64 4, .int .i64 0, .int .i64 0, .string (bs []), .bool (n != 0)], .int .i64 0]) ∧ Below w.heap.size w w' := by
  have CN := Lib.hid (fun w => numeric_any k n s t b w)
  rw [ek] at CN
  have CO := Lib.hid (fun x w => truth_any x w)
  obtain ⟨x, hx⟩ : ∃ x, x = (n != 0) := ⟨_, rfl⟩
  cases e0 : (n != 0)
  all_goals
    go_enter Tryz.func44, Tryz.ntmps44
    go_wp2_with (first
      | (go_at_call 20; with_reducible refine (CN.out _).mono ?_; rintro e w1 ⟨rfl, hb⟩
         have B0 : Blk w1 w.heap.size #[.int .i64 k, .int .i64 n, .int .i64 s, .string t, .bool b] 24 := (Blk.alloc (Blk.here rfl rfl) _).below hb (by simp; omega)
         have B1 : Blk w1 (w.heap.size + 1) #[.int .i64 0, .int .i64 0, .int .i64 0, .string ⟨#[]⟩, .bool false] 24 := (Blk.here rfl (by simp)).below hb (by simp)
         have hw1 : Below w.heap.size w w1 := Below.trans (by go_grown) (hb.mono (by simp; omega))
         have k1 : w.heap.size + 1 < w1.heap.size := B1.lt
         have j1 : w.heap.size < w1.heap.size := B0.lt
         obtain ⟨⟨a0, a1, a2, a3, a4⟩, g0, g1, g2, g3, g4⟩ := B0.five
         obtain ⟨⟨c0, c1, c2, c3, c4⟩, f0, f1, f2, f3, f4⟩ := B1.five
         clear hb)
      | (go_at_call 23; with_reducible refine (CO.out _ _).mono ?_; rintro e w2 ⟨rfl, hb⟩
         have B0' := B0.below hb B0.lt
         have B1' := B1.below hb B1.lt
         have hw2 : Below w.heap.size w w2 := hw1.trans (hb.mono hw1.size)
         clear B0 B1 a0 a1 a2 a3 a4 g0 g1 g2 g3 g4 c0 c1 c2 c3 c4 f0 f1 f2 f3 f4
         have B0 := B0'
         have B1 := B1'
         clear B0' B1'
         have k2 : w.heap.size + 1 < w2.heap.size := B1.lt
         have j2 : w.heap.size < w2.heap.size := B0.lt
         obtain ⟨⟨a0, a1, a2, a3, a4⟩, g0, g1, g2, g3, g4⟩ := B0.five
         obtain ⟨⟨c0, c1, c2, c3, c4⟩, f0, f1, f2, f3, f4⟩ := B1.five
         clear hb))
  ·
    refine bodyPost_ret (v := .tuple #[.agg #[.int .i64 4, .int .i64 0, .int .i64 0, .string (bs []), .bool false], .int .i64 0]) (by simp [results, Tryz.results44, go_sem, c0, c1, c2, c3, c4, f0, f1, f2, f3, f4, k2, j2] <;> first | done | rfl | exact ⟨rfl, rfl, rfl, rfl, rfl⟩ | exact ⟨rfl, rfl, rfl, rfl⟩) rfl ⟨rfl, ?_⟩
    go_grown
    all_goals first | exact hw2 | exact hw2.size
  ·
    refine bodyPost_ret (v := .tuple #[.agg #[.int .i64 4, .int .i64 0, .int .i64 0, .string (bs []), .bool true], .int .i64 0]) (by simp [results, Tryz.results44, go_sem, c0, c1, c2, c3, c4, f0, f1, f2, f3, f4, k2, j2] <;> first | done | rfl | exact ⟨rfl, rfl, rfl, rfl, rfl⟩ | exact ⟨rfl, rfl, rfl, rfl⟩) rfl ⟨rfl, ?_⟩
    go_grown
    all_goals first | exact hw2 | exact hw2.size

set_option maxRecDepth 100000 in
set_option maxHeartbeats 1000000 in
theorem toBool_text (k n s : Int) (t : ByteArray) (b : Bool) (ek : (k == 1 || k == 2) = false) (ht : t.size ≤ 2000000) (w : World) : Calls Tryz.prog 44 #[.agg #[.int .i64 k, .int .i64 n, .int .i64 s, .string t, .bool b]] w fun e w' =>
    e = .returned (.tuple #[AV (toBoolF ⟨k, n, s, t, b⟩).1, .int .i64 (toBoolF ⟨k, n, s, t, b⟩).2]) ∧ Below w.heap.size w w' := by
  have CN := Lib.hid (fun w => numeric_any k n s t b w)
  rw [ek] at CN
  have CT := Lib.hid (fun w => ctrim_any t (by omega) w)
  have CO := Lib.hid (fun x w => truth_any x w)
  have hF : toBoolF ⟨k, n, s, t, b⟩ = if trimT t == trueS || trimT t == [49] then (truthA true, 0) else if trimT t == falseS || trimT t == [48] then (truthA false, 0) else (zeroA, 50) := by unfold toBoolF; simp only [ek]; rfl
  rw [hF]
  clear hF ht
  obtain ⟨T, hT⟩ : ∃ T, T = bs (trimT t) := ⟨_, rfl⟩
  have q : trimT t = T.toList := by
    rw [hT, Lib.toList_data]
    rfl
  rw [q]
  rw [← hT] at CT
  clear hT q
  unfold trueS falseS
  cases e1 : (T.toList == [116, 114, 117, 101])
  · cases e2 : (T.toList == [49])
    · cases e3 : (T.toList == [102, 97, 108, 115, 101])
      · cases e4 : (T.toList == [48])
        · simp only [Bool.false_eq_true, Bool.or_false, if_false]
          go_enter Tryz.func44, Tryz.ntmps44
          go_wp2_with (first
      | (go_at_call 20; with_reducible refine (CN.out _).mono ?_; rintro e w1 ⟨rfl, hb⟩
         have B0 : Blk w1 w.heap.size #[.int .i64 k, .int .i64 n, .int .i64 s, .string t, .bool b] 24 := (Blk.alloc (Blk.here rfl rfl) _).below hb (by simp; omega)
         have B1 : Blk w1 (w.heap.size + 1) #[.int .i64 0, .int .i64 0, .int .i64 0, .string ⟨#[]⟩, .bool false] 24 := (Blk.here rfl (by simp)).below hb (by simp)
         have hw1 : Below w.heap.size w w1 := Below.trans (by go_grown) (hb.mono (by simp; omega))
         have k1 : w.heap.size + 1 < w1.heap.size := B1.lt
         have j1 : w.heap.size < w1.heap.size := B0.lt
         obtain ⟨⟨a0, a1, a2, a3, a4⟩, g0, g1, g2, g3, g4⟩ := B0.five
         obtain ⟨⟨c0, c1, c2, c3, c4⟩, f0, f1, f2, f3, f4⟩ := B1.five
         clear hb)
      | (go_at_call 72; with_reducible refine (CT.out _).mono ?_; rintro e w2 ⟨rfl, hb⟩
         have B0' := B0.below hb B0.lt
         have B1' := B1.below hb B1.lt
         have hw2 : Below w.heap.size w w2 := hw1.trans (hb.mono hw1.size)
         clear B0 B1 a0 a1 a2 a3 a4 g0 g1 g2 g3 g4 c0 c1 c2 c3 c4 f0 f1 f2 f3 f4
         have B0 := B0'
         have B1 := B1'
         clear B0' B1'
         have k2 : w.heap.size + 1 < w2.heap.size := B1.lt
         have j2 : w.heap.size < w2.heap.size := B0.lt
         obtain ⟨⟨a0, a1, a2, a3, a4⟩, g0, g1, g2, g3, g4⟩ := B0.five
         obtain ⟨⟨c0, c1, c2, c3, c4⟩, f0, f1, f2, f3, f4⟩ := B1.five
         clear hb)
      | (go_at_call 23; with_reducible refine (CO.out _ _).mono ?_; rintro e w3 ⟨rfl, hb⟩
         have B0' := B0.below hb B0.lt
         have B1' := B1.below hb B1.lt
         have hw3 : Below w.heap.size w w3 := hw2.trans (hb.mono hw2.size)
         clear B0 B1 a0 a1 a2 a3 a4 g0 g1 g2 g3 g4 c0 c1 c2 c3 c4 f0 f1 f2 f3 f4
         have B0 := B0'
         have B1 := B1'
         clear B0' B1'
         have k3 : w.heap.size + 1 < w3.heap.size := B1.lt
         have j3 : w.heap.size < w3.heap.size := B0.lt
         obtain ⟨⟨a0, a1, a2, a3, a4⟩, g0, g1, g2, g3, g4⟩ := B0.five
         obtain ⟨⟨c0, c1, c2, c3, c4⟩, f0, f1, f2, f3, f4⟩ := B1.five
         clear hb))
          refine bodyPost_ret (v := .tuple #[AV zeroA, .int .i64 50]) (by simp [results, Tryz.results44, go_sem, c0, c1, c2, c3, c4, f0, f1, f2, f3, f4, k2, j2] <;> first | done | rfl | exact ⟨rfl, rfl, rfl, rfl, rfl⟩ | exact ⟨rfl, rfl, rfl, rfl⟩) rfl ⟨rfl, ?_⟩
          go_grown
          all_goals first | exact hw2 | exact hw2.size
        · simp only [Bool.false_eq_true, Bool.or_false, Bool.or_true, if_false, if_true]
          go_enter Tryz.func44, Tryz.ntmps44
          go_wp2_with (first
      | (go_at_call 20; with_reducible refine (CN.out _).mono ?_; rintro e w1 ⟨rfl, hb⟩
         have B0 : Blk w1 w.heap.size #[.int .i64 k, .int .i64 n, .int .i64 s, .string t, .bool b] 24 := (Blk.alloc (Blk.here rfl rfl) _).below hb (by simp; omega)
         have B1 : Blk w1 (w.heap.size + 1) #[.int .i64 0, .int .i64 0, .int .i64 0, .string ⟨#[]⟩, .bool false] 24 := (Blk.here rfl (by simp)).below hb (by simp)
         have hw1 : Below w.heap.size w w1 := Below.trans (by go_grown) (hb.mono (by simp; omega))
         have k1 : w.heap.size + 1 < w1.heap.size := B1.lt
         have j1 : w.heap.size < w1.heap.size := B0.lt
         obtain ⟨⟨a0, a1, a2, a3, a4⟩, g0, g1, g2, g3, g4⟩ := B0.five
         obtain ⟨⟨c0, c1, c2, c3, c4⟩, f0, f1, f2, f3, f4⟩ := B1.five
         clear hb)
      | (go_at_call 72; with_reducible refine (CT.out _).mono ?_; rintro e w2 ⟨rfl, hb⟩
         have B0' := B0.below hb B0.lt
         have B1' := B1.below hb B1.lt
         have hw2 : Below w.heap.size w w2 := hw1.trans (hb.mono hw1.size)
         clear B0 B1 a0 a1 a2 a3 a4 g0 g1 g2 g3 g4 c0 c1 c2 c3 c4 f0 f1 f2 f3 f4
         have B0 := B0'
         have B1 := B1'
         clear B0' B1'
         have k2 : w.heap.size + 1 < w2.heap.size := B1.lt
         have j2 : w.heap.size < w2.heap.size := B0.lt
         obtain ⟨⟨a0, a1, a2, a3, a4⟩, g0, g1, g2, g3, g4⟩ := B0.five
         obtain ⟨⟨c0, c1, c2, c3, c4⟩, f0, f1, f2, f3, f4⟩ := B1.five
         clear hb)
      | (go_at_call 23; with_reducible refine (CO.out _ _).mono ?_; rintro e w3 ⟨rfl, hb⟩
         have B0' := B0.below hb B0.lt
         have B1' := B1.below hb B1.lt
         have hw3 : Below w.heap.size w w3 := hw2.trans (hb.mono hw2.size)
         clear B0 B1 a0 a1 a2 a3 a4 g0 g1 g2 g3 g4 c0 c1 c2 c3 c4 f0 f1 f2 f3 f4
         have B0 := B0'
         have B1 := B1'
         clear B0' B1'
         have k3 : w.heap.size + 1 < w3.heap.size := B1.lt
         have j3 : w.heap.size < w3.heap.size := B0.lt
         obtain ⟨⟨a0, a1, a2, a3, a4⟩, g0, g1, g2, g3, g4⟩ := B0.five
         obtain ⟨⟨c0, c1, c2, c3, c4⟩, f0, f1, f2, f3, f4⟩ := B1.five
         clear hb))
          refine bodyPost_ret (v := .tuple #[AV (truthA false), .int .i64 0]) (by simp [results, Tryz.results44, go_sem, c0, c1, c2, c3, c4, f0, f1, f2, f3, f4, k3, j3] <;> first | done | rfl | exact ⟨rfl, rfl, rfl, rfl, rfl⟩ | exact ⟨rfl, rfl, rfl, rfl⟩) rfl ⟨rfl, ?_⟩
          go_grown
          all_goals first | exact hw3 | exact hw3.size
      · simp only [Bool.false_eq_true, Bool.or_false, Bool.true_or, if_false, if_true]
        go_enter Tryz.func44, Tryz.ntmps44
        go_wp2_with (first
      | (go_at_call 20; with_reducible refine (CN.out _).mono ?_; rintro e w1 ⟨rfl, hb⟩
         have B0 : Blk w1 w.heap.size #[.int .i64 k, .int .i64 n, .int .i64 s, .string t, .bool b] 24 := (Blk.alloc (Blk.here rfl rfl) _).below hb (by simp; omega)
         have B1 : Blk w1 (w.heap.size + 1) #[.int .i64 0, .int .i64 0, .int .i64 0, .string ⟨#[]⟩, .bool false] 24 := (Blk.here rfl (by simp)).below hb (by simp)
         have hw1 : Below w.heap.size w w1 := Below.trans (by go_grown) (hb.mono (by simp; omega))
         have k1 : w.heap.size + 1 < w1.heap.size := B1.lt
         have j1 : w.heap.size < w1.heap.size := B0.lt
         obtain ⟨⟨a0, a1, a2, a3, a4⟩, g0, g1, g2, g3, g4⟩ := B0.five
         obtain ⟨⟨c0, c1, c2, c3, c4⟩, f0, f1, f2, f3, f4⟩ := B1.five
         clear hb)
      | (go_at_call 72; with_reducible refine (CT.out _).mono ?_; rintro e w2 ⟨rfl, hb⟩
         have B0' := B0.below hb B0.lt
         have B1' := B1.below hb B1.lt
         have hw2 : Below w.heap.size w w2 := hw1.trans (hb.mono hw1.size)
         clear B0 B1 a0 a1 a2 a3 a4 g0 g1 g2 g3 g4 c0 c1 c2 c3 c4 f0 f1 f2 f3 f4
         have B0 := B0'
         have B1 := B1'
         clear B0' B1'
         have k2 : w.heap.size + 1 < w2.heap.size := B1.lt
         have j2 : w.heap.size < w2.heap.size := B0.lt
         obtain ⟨⟨a0, a1, a2, a3, a4⟩, g0, g1, g2, g3, g4⟩ := B0.five
         obtain ⟨⟨c0, c1, c2, c3, c4⟩, f0, f1, f2, f3, f4⟩ := B1.five
         clear hb)
      | (go_at_call 23; with_reducible refine (CO.out _ _).mono ?_; rintro e w3 ⟨rfl, hb⟩
         have B0' := B0.below hb B0.lt
         have B1' := B1.below hb B1.lt
         have hw3 : Below w.heap.size w w3 := hw2.trans (hb.mono hw2.size)
         clear B0 B1 a0 a1 a2 a3 a4 g0 g1 g2 g3 g4 c0 c1 c2 c3 c4 f0 f1 f2 f3 f4
         have B0 := B0'
         have B1 := B1'
         clear B0' B1'
         have k3 : w.heap.size + 1 < w3.heap.size := B1.lt
         have j3 : w.heap.size < w3.heap.size := B0.lt
         obtain ⟨⟨a0, a1, a2, a3, a4⟩, g0, g1, g2, g3, g4⟩ := B0.five
         obtain ⟨⟨c0, c1, c2, c3, c4⟩, f0, f1, f2, f3, f4⟩ := B1.five
         clear hb))
        refine bodyPost_ret (v := .tuple #[AV (truthA false), .int .i64 0]) (by simp [results, Tryz.results44, go_sem, c0, c1, c2, c3, c4, f0, f1, f2, f3, f4, k3, j3] <;> first | done | rfl | exact ⟨rfl, rfl, rfl, rfl, rfl⟩ | exact ⟨rfl, rfl, rfl, rfl⟩) rfl ⟨rfl, ?_⟩
        go_grown
        all_goals first | exact hw3 | exact hw3.size
    · simp only [Bool.or_true, if_true]
      go_enter Tryz.func44, Tryz.ntmps44
      go_wp2_with (first
      | (go_at_call 20; with_reducible refine (CN.out _).mono ?_; rintro e w1 ⟨rfl, hb⟩
         have B0 : Blk w1 w.heap.size #[.int .i64 k, .int .i64 n, .int .i64 s, .string t, .bool b] 24 := (Blk.alloc (Blk.here rfl rfl) _).below hb (by simp; omega)
         have B1 : Blk w1 (w.heap.size + 1) #[.int .i64 0, .int .i64 0, .int .i64 0, .string ⟨#[]⟩, .bool false] 24 := (Blk.here rfl (by simp)).below hb (by simp)
         have hw1 : Below w.heap.size w w1 := Below.trans (by go_grown) (hb.mono (by simp; omega))
         have k1 : w.heap.size + 1 < w1.heap.size := B1.lt
         have j1 : w.heap.size < w1.heap.size := B0.lt
         obtain ⟨⟨a0, a1, a2, a3, a4⟩, g0, g1, g2, g3, g4⟩ := B0.five
         obtain ⟨⟨c0, c1, c2, c3, c4⟩, f0, f1, f2, f3, f4⟩ := B1.five
         clear hb)
      | (go_at_call 72; with_reducible refine (CT.out _).mono ?_; rintro e w2 ⟨rfl, hb⟩
         have B0' := B0.below hb B0.lt
         have B1' := B1.below hb B1.lt
         have hw2 : Below w.heap.size w w2 := hw1.trans (hb.mono hw1.size)
         clear B0 B1 a0 a1 a2 a3 a4 g0 g1 g2 g3 g4 c0 c1 c2 c3 c4 f0 f1 f2 f3 f4
         have B0 := B0'
         have B1 := B1'
         clear B0' B1'
         have k2 : w.heap.size + 1 < w2.heap.size := B1.lt
         have j2 : w.heap.size < w2.heap.size := B0.lt
         obtain ⟨⟨a0, a1, a2, a3, a4⟩, g0, g1, g2, g3, g4⟩ := B0.five
         obtain ⟨⟨c0, c1, c2, c3, c4⟩, f0, f1, f2, f3, f4⟩ := B1.five
         clear hb)
      | (go_at_call 23; with_reducible refine (CO.out _ _).mono ?_; rintro e w3 ⟨rfl, hb⟩
         have B0' := B0.below hb B0.lt
         have B1' := B1.below hb B1.lt
         have hw3 : Below w.heap.size w w3 := hw2.trans (hb.mono hw2.size)
         clear B0 B1 a0 a1 a2 a3 a4 g0 g1 g2 g3 g4 c0 c1 c2 c3 c4 f0 f1 f2 f3 f4
         have B0 := B0'
         have B1 := B1'
         clear B0' B1'
         have k3 : w.heap.size + 1 < w3.heap.size := B1.lt
         have j3 : w.heap.size < w3.heap.size := B0.lt
         obtain ⟨⟨a0, a1, a2, a3, a4⟩, g0, g1, g2, g3, g4⟩ := B0.five
         obtain ⟨⟨c0, c1, c2, c3, c4⟩, f0, f1, f2, f3, f4⟩ := B1.five
         clear hb))
      refine bodyPost_ret (v := .tuple #[AV (truthA true), .int .i64 0]) (by simp [results, Tryz.results44, go_sem, c0, c1, c2, c3, c4, f0, f1, f2, f3, f4, k3, j3] <;> first | done | rfl | exact ⟨rfl, rfl, rfl, rfl, rfl⟩ | exact ⟨rfl, rfl, rfl, rfl⟩) rfl ⟨rfl, ?_⟩
      go_grown
      all_goals first | exact hw3 | exact hw3.size
  · simp only [Bool.true_or, if_true]
    go_enter Tryz.func44, Tryz.ntmps44
    go_wp2_with (first
      | (go_at_call 20; with_reducible refine (CN.out _).mono ?_; rintro e w1 ⟨rfl, hb⟩
         have B0 : Blk w1 w.heap.size #[.int .i64 k, .int .i64 n, .int .i64 s, .string t, .bool b] 24 := (Blk.alloc (Blk.here rfl rfl) _).below hb (by simp; omega)
         have B1 : Blk w1 (w.heap.size + 1) #[.int .i64 0, .int .i64 0, .int .i64 0, .string ⟨#[]⟩, .bool false] 24 := (Blk.here rfl (by simp)).below hb (by simp)
         have hw1 : Below w.heap.size w w1 := Below.trans (by go_grown) (hb.mono (by simp; omega))
         have k1 : w.heap.size + 1 < w1.heap.size := B1.lt
         have j1 : w.heap.size < w1.heap.size := B0.lt
         obtain ⟨⟨a0, a1, a2, a3, a4⟩, g0, g1, g2, g3, g4⟩ := B0.five
         obtain ⟨⟨c0, c1, c2, c3, c4⟩, f0, f1, f2, f3, f4⟩ := B1.five
         clear hb)
      | (go_at_call 72; with_reducible refine (CT.out _).mono ?_; rintro e w2 ⟨rfl, hb⟩
         have B0' := B0.below hb B0.lt
         have B1' := B1.below hb B1.lt
         have hw2 : Below w.heap.size w w2 := hw1.trans (hb.mono hw1.size)
         clear B0 B1 a0 a1 a2 a3 a4 g0 g1 g2 g3 g4 c0 c1 c2 c3 c4 f0 f1 f2 f3 f4
         have B0 := B0'
         have B1 := B1'
         clear B0' B1'
         have k2 : w.heap.size + 1 < w2.heap.size := B1.lt
         have j2 : w.heap.size < w2.heap.size := B0.lt
         obtain ⟨⟨a0, a1, a2, a3, a4⟩, g0, g1, g2, g3, g4⟩ := B0.five
         obtain ⟨⟨c0, c1, c2, c3, c4⟩, f0, f1, f2, f3, f4⟩ := B1.five
         clear hb)
      | (go_at_call 23; with_reducible refine (CO.out _ _).mono ?_; rintro e w3 ⟨rfl, hb⟩
         have B0' := B0.below hb B0.lt
         have B1' := B1.below hb B1.lt
         have hw3 : Below w.heap.size w w3 := hw2.trans (hb.mono hw2.size)
         clear B0 B1 a0 a1 a2 a3 a4 g0 g1 g2 g3 g4 c0 c1 c2 c3 c4 f0 f1 f2 f3 f4
         have B0 := B0'
         have B1 := B1'
         clear B0' B1'
         have k3 : w.heap.size + 1 < w3.heap.size := B1.lt
         have j3 : w.heap.size < w3.heap.size := B0.lt
         obtain ⟨⟨a0, a1, a2, a3, a4⟩, g0, g1, g2, g3, g4⟩ := B0.five
         obtain ⟨⟨c0, c1, c2, c3, c4⟩, f0, f1, f2, f3, f4⟩ := B1.five
         clear hb))
    refine bodyPost_ret (v := .tuple #[AV (truthA true), .int .i64 0]) (by simp [results, Tryz.results44, go_sem, c0, c1, c2, c3, c4, f0, f1, f2, f3, f4, k3, j3] <;> first | done | rfl | exact ⟨rfl, rfl, rfl, rfl, rfl⟩ | exact ⟨rfl, rfl, rfl, rfl⟩) rfl ⟨rfl, ?_⟩
    go_grown
    all_goals first | exact hw3 | exact hw3.size

end Go.Proofs.YtaoobajokhcimaaGreatDoor

/- Casts of atomic values: to whole numbers, to numbers, to truth values; their texts. -/
import Derived.Test.YtaoobajokhcimaaGreatDoorAtK
import Derived.Test.YtaoobajokhcimaaGreatDoorWaJ
import Derived.Test.YtaoobajokhcimaaGreatDoorWaL
set_option linter.unusedSimpArgs false
set_option linter.unusedVariables false
set_option linter.constructorNameAsVariable false
namespace Go.Proofs.YtaoobajokhcimaaGreatDoor
open Go.RowKit

theorem contains46 (l : List UInt8) (c : UInt8) : decide (0 ≤ Lib.indexByte l c) = l.contains c := by
  induction l with
  | nil => rfl
  | cons b l ih =>
    have hg := Lib.indexByte_ge l c
    rw [Lib.indexByte, List.contains_cons]
    cases e : (b == c)
    · have e' : (c == b) = false := by simp at e ⊢; exact fun h => e h.symm
      rw [e', ← ih]
      simp only [Bool.false_eq_true, if_false, Bool.false_or]
      split
      · rename_i h
        have : Lib.indexByte l c = -1 := by simpa using h
        rw [this]
      · rename_i h
        have : Lib.indexByte l c ≠ -1 := by simpa using h
        rw [decide_eq_decide]
        omega
    · have e' : (c == b) = true := by simp at e ⊢; exact e.symm
      rw [e']
      rfl
theorem num_is (k n s : Int) (t : ByteArray) (b : Bool) (x y : Int) (h : numN ⟨k, n, s, t, b⟩ = (x, y)) (w : World) : Calls Tryz.prog 16 #[.agg #[.int .i64 k, .int .i64 n, .int .i64 s, .string t, .bool b]] w fun e w' =>
    e = .returned (.agg #[.int .i64 x, .int .i64 y]) ∧ Below w.heap.size w w' := by
  have := num_any k n s t b w
  rw [h] at this
  exact this

set_option maxRecDepth 100000 in
set_option maxHeartbeats 1000000 in
theorem toInt_dec (n : Int) (s : Nat) (t : ByteArray) (b : Bool) (h : Rt n s) (w : World) : Calls Tryz.prog 42 #[.agg #[.int .i64 2, .int .i64 n, .int .i64 (s : Int), .string t, .bool b]] w fun e w' =>
    e = .returned (.tuple #[.agg #[.int .i64 1, .int .i64 (truncF n s), .int .i64 0, .string (bs []), .bool false], .int .i64 0]) ∧ Below w.heap.size w w' := by
  have CN := Lib.hid (fun w => num_is 2 n s t b n s rfl w)
  have CO := Lib.hid (fun w => of_any (truncF n s) w)
  have hfd : ∀ (x y : Int) (w : World), (Instr.field 31 (.agg #[.int .i64 x, .int .i64 y]) 0).run Tryz.prog w = .ok (.int .i64 x) w := fun _ _ _ => by kernel_rfl
  by_cases hn : n < 0
  · have CC := Lib.hid (fun w => ceil_any n s h w)
    rw [trunc_ceil hn] at CC
    have e1 : decide (n < 0) = true := by simpa using hn
    generalize truncF n s = x at *
    clear h hn
    go_enter Tryz.func42, Tryz.ntmps42
    go_wp2_with (first
      | (go_at_call 16; with_reducible refine (CN.out _).mono ?_; rintro e w1 ⟨rfl, hb⟩
         have B0 : Blk w1 w.heap.size #[.int .i64 2, .int .i64 n, .int .i64 (s : Int), .string t, .bool b] 24 := (Blk.alloc (Blk.here rfl rfl) _).below hb (by simp; omega)
         have B1 : Blk w1 (w.heap.size + 1) #[.int .i64 0, .int .i64 0, .int .i64 0, .string ⟨#[]⟩, .bool false] 24 := (Blk.here rfl (by simp)).below hb (by simp)
         have hw1 : Below w.heap.size w w1 := Below.trans (by go_grown) (hb.mono (by simp; omega))
         have k1 : w.heap.size + 1 < w1.heap.size := B1.lt
         have j1 : w.heap.size < w1.heap.size := B0.lt
         obtain ⟨⟨a0, a1, a2, a3, a4⟩, g0, g1, g2, g3, g4⟩ := B0.five
         obtain ⟨⟨c0, c1, c2, c3, c4⟩, f0, f1, f2, f3, f4⟩ := B1.five
         clear hb)
      | (go_at_call 68; with_reducible refine (CC.out _).mono ?_; rintro e w2 ⟨rfl, hb⟩
         have B0' := (B0.alloc _).below hb (B0.alloc _).lt
         have B1' := (B1.alloc _).below hb (B1.alloc _).lt
         have hw2 : Below w.heap.size w w2 := (hw1.alloc hw1.size _).trans (hb.mono (by have := hw1.size; simp; omega))
         clear B0 B1 a0 a1 a2 a3 a4 g0 g1 g2 g3 g4 c0 c1 c2 c3 c4 f0 f1 f2 f3 f4
         have B0 := B0'
         have B1 := B1'
         clear B0' B1'
         have k2 : w.heap.size + 1 < w2.heap.size := B1.lt
         have j2 : w.heap.size < w2.heap.size := B0.lt
         obtain ⟨⟨a0, a1, a2, a3, a4⟩, g0, g1, g2, g3, g4⟩ := B0.five
         obtain ⟨⟨c0, c1, c2, c3, c4⟩, f0, f1, f2, f3, f4⟩ := B1.five
         clear hb)
      | (go_at_call 19; with_reducible refine (CO.out _).mono ?_; rintro e w3 ⟨rfl, hb⟩
         have B0' := B0.below hb B0.lt
         have B1' := B1.below hb B1.lt
         have hw3 : Below w.heap.size w w3 := hw2.trans (hb.mono hw2.size)
         clear B0 B1 a0 a1 a2 a3 a4 g0 g1 g2 g3 g4 c0 c1 c2 c3 c4 f0 f1 f2 f3 f4
         have B0 := B0'
         have B1 := B1'
         clear B0' B1'
         have k3 : w.heap.size + 1 < w3.heap.size := B1.lt
         have j3 : w.heap.size < w3.heap.size := B0.lt
         obtain ⟨⟨a0, a1, a2, a3, a4⟩, g0, g1, g2, g3, g4⟩ := B0.five
         obtain ⟨⟨c0, c1, c2, c3, c4⟩, f0, f1, f2, f3, f4⟩ := B1.five
         clear hb)
      | simp only [hfd])
    refine bodyPost_ret (v := .tuple #[.agg #[.int .i64 1, .int .i64 x, .int .i64 0, .string (bs []), .bool false], .int .i64 0]) (by simp [results, Tryz.results42, go_sem, c0, c1, c2, c3, c4, f0, f1, f2, f3, f4, k3, j3] <;> first | done | rfl) rfl ⟨rfl, ?_⟩
    go_grown
    all_goals first | exact hw3 | exact hw3.size
  · have CC := Lib.hid (fun w => floor_any n s h w)
    rw [trunc_floor (by omega)] at CC
    have e1 : decide (n < 0) = false := by simpa using hn
    generalize truncF n s = x at *
    clear h hn
    go_enter Tryz.func42, Tryz.ntmps42
    go_wp2_with (first
      | (go_at_call 16; with_reducible refine (CN.out _).mono ?_; rintro e w1 ⟨rfl, hb⟩
         have B0 : Blk w1 w.heap.size #[.int .i64 2, .int .i64 n, .int .i64 (s : Int), .string t, .bool b] 24 := (Blk.alloc (Blk.here rfl rfl) _).below hb (by simp; omega)
         have B1 : Blk w1 (w.heap.size + 1) #[.int .i64 0, .int .i64 0, .int .i64 0, .string ⟨#[]⟩, .bool false] 24 := (Blk.here rfl (by simp)).below hb (by simp)
         have hw1 : Below w.heap.size w w1 := Below.trans (by go_grown) (hb.mono (by simp; omega))
         have k1 : w.heap.size + 1 < w1.heap.size := B1.lt
         have j1 : w.heap.size < w1.heap.size := B0.lt
         obtain ⟨⟨a0, a1, a2, a3, a4⟩, g0, g1, g2, g3, g4⟩ := B0.five
         obtain ⟨⟨c0, c1, c2, c3, c4⟩, f0, f1, f2, f3, f4⟩ := B1.five
         clear hb)
      | (go_at_call 69; with_reducible refine (CC.out _).mono ?_; rintro e w2 ⟨rfl, hb⟩
         have B0' := (B0.alloc _).below hb (B0.alloc _).lt
         have B1' := (B1.alloc _).below hb (B1.alloc _).lt
         have hw2 : Below w.heap.size w w2 := (hw1.alloc hw1.size _).trans (hb.mono (by have := hw1.size; simp; omega))
         clear B0 B1 a0 a1 a2 a3 a4 g0 g1 g2 g3 g4 c0 c1 c2 c3 c4 f0 f1 f2 f3 f4
         have B0 := B0'
         have B1 := B1'
         clear B0' B1'
         have k2 : w.heap.size + 1 < w2.heap.size := B1.lt
         have j2 : w.heap.size < w2.heap.size := B0.lt
         obtain ⟨⟨a0, a1, a2, a3, a4⟩, g0, g1, g2, g3, g4⟩ := B0.five
         obtain ⟨⟨c0, c1, c2, c3, c4⟩, f0, f1, f2, f3, f4⟩ := B1.five
         clear hb)
      | (go_at_call 19; with_reducible refine (CO.out _).mono ?_; rintro e w3 ⟨rfl, hb⟩
         have B0' := B0.below hb B0.lt
         have B1' := B1.below hb B1.lt
         have hw3 : Below w.heap.size w w3 := hw2.trans (hb.mono hw2.size)
         clear B0 B1 a0 a1 a2 a3 a4 g0 g1 g2 g3 g4 c0 c1 c2 c3 c4 f0 f1 f2 f3 f4
         have B0 := B0'
         have B1 := B1'
         clear B0' B1'
         have k3 : w.heap.size + 1 < w3.heap.size := B1.lt
         have j3 : w.heap.size < w3.heap.size := B0.lt
         obtain ⟨⟨a0, a1, a2, a3, a4⟩, g0, g1, g2, g3, g4⟩ := B0.five
         obtain ⟨⟨c0, c1, c2, c3, c4⟩, f0, f1, f2, f3, f4⟩ := B1.five
         clear hb)
      | simp only [hfd])
    refine bodyPost_ret (v := .tuple #[.agg #[.int .i64 1, .int .i64 x, .int .i64 0, .string (bs []), .bool false], .int .i64 0]) (by simp [results, Tryz.results42, go_sem, c0, c1, c2, c3, c4, f0, f1, f2, f3, f4, k3, j3] <;> first | done | rfl) rfl ⟨rfl, ?_⟩
    go_grown
    all_goals first | exact hw3 | exact hw3.size

theorem toInt_bool (n s : Int) (t : ByteArray) (b : Bool) (w : World) : Calls Tryz.prog 42 #[.agg #[.int .i64 4, .int .i64 n, .int .i64 s, .string t, .bool b]] w fun e w' =>
    e = .returned (.tuple #[.agg #[.int .i64 1, .int .i64 (if b then 1 else 0), .int .i64 0, .string (bs []), .bool false], .int .i64 0]) ∧ Below w.heap.size w w' := by
  have CO := Lib.hid (fun x w => of_any x w)
  cases b
  · go_enter Tryz.func42, Tryz.ntmps42
    go_wp2_with (first
      | (go_at_call 19; with_reducible refine (CO.out 0 _).mono ?_; rintro e w1 ⟨rfl, hb⟩
         have B0 : Blk w1 w.heap.size #[.int .i64 4, .int .i64 n, .int .i64 s, .string t, .bool false] 24 := (Blk.alloc (Blk.here rfl rfl) _).below hb (by simp; omega)
         have B1 : Blk w1 (w.heap.size + 1) #[.int .i64 0, .int .i64 0, .int .i64 0, .string ⟨#[]⟩, .bool false] 24 := (Blk.here rfl (by simp)).below hb (by simp)
         have hw1 : Below w.heap.size w w1 := Below.trans (by go_grown) (hb.mono (by simp; omega))
         have k1 : w.heap.size + 1 < w1.heap.size := B1.lt
         have j1 : w.heap.size < w1.heap.size := B0.lt
         obtain ⟨⟨a0, a1, a2, a3, a4⟩, g0, g1, g2, g3, g4⟩ := B0.five
         obtain ⟨⟨c0, c1, c2, c3, c4⟩, f0, f1, f2, f3, f4⟩ := B1.five
         clear hb))
    refine bodyPost_ret (v := .tuple #[.agg #[.int .i64 1, .int .i64 0, .int .i64 0, .string (bs []), .bool false], .int .i64 0]) (by simp [results, Tryz.results42, go_sem, c0, c1, c2, c3, c4, f0, f1, f2, f3, f4, k1, j1] <;> first | done | rfl) rfl ⟨rfl, ?_⟩
    go_grown
    all_goals first | exact hw1 | exact hw1.size
  · go_enter Tryz.func42, Tryz.ntmps42
    go_wp2_with (first
      | (go_at_call 19; with_reducible refine (CO.out 1 _).mono ?_; rintro e w1 ⟨rfl, hb⟩
         have B0 : Blk w1 w.heap.size #[.int .i64 4, .int .i64 n, .int .i64 s, .string t, .bool true] 24 := (Blk.alloc (Blk.here rfl rfl) _).below hb (by simp; omega)
         have B1 : Blk w1 (w.heap.size + 1) #[.int .i64 0, .int .i64 0, .int .i64 0, .string ⟨#[]⟩, .bool false] 24 := (Blk.here rfl (by simp)).below hb (by simp)
         have hw1 : Below w.heap.size w w1 := Below.trans (by go_grown) (hb.mono (by simp; omega))
         have k1 : w.heap.size + 1 < w1.heap.size := B1.lt
         have j1 : w.heap.size < w1.heap.size := B0.lt
         obtain ⟨⟨a0, a1, a2, a3, a4⟩, g0, g1, g2, g3, g4⟩ := B0.five
         obtain ⟨⟨c0, c1, c2, c3, c4⟩, f0, f1, f2, f3, f4⟩ := B1.five
         clear hb))
    refine bodyPost_ret (v := .tuple #[.agg #[.int .i64 1, .int .i64 1, .int .i64 0, .string (bs []), .bool false], .int .i64 0]) (by simp [results, Tryz.results42, go_sem, c0, c1, c2, c3, c4, f0, f1, f2, f3, f4, k1, j1] <;> first | done | rfl) rfl ⟨rfl, ?_⟩
    go_grown
    all_goals first | exact hw1 | exact hw1.size

end Go.Proofs.YtaoobajokhcimaaGreatDoor

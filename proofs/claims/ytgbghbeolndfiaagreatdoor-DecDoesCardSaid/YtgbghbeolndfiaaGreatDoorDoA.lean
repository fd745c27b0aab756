/- The law DecDoes: its walk. -/
import Derived.Test.YtgbghbeolndfiaaGreatDoorDiP
import Derived.Test.YtgbghbeolndfiaaGreatDoorWaO
import Derived.Test.YtgbghbeolndfiaaGreatDoorWaS
set_option linter.unusedSimpArgs false
set_option linter.unusedVariables false
set_option linter.constructorNameAsVariable false
set_option maxRecDepth 20000
namespace Go.Proofs.YtgbghbeolndfiaaGreatDoor
open Go.RowKit

set_option maxHeartbeats 8000000 in
theorem does_any (n s k t : Int) (m : Int) (w : World) (hL : Laid m w) : Calls Tryz.prog 6 #[.agg #[.int .i64 n, .int .i64 s], .agg #[.int .i64 k, .int .i64 t]] w fun e w' => e = .returned (.bool true) ∧ Below w.heap.size w w' := by
  have CW := Lib.hid (fun w' (hb : Below w.heap.size w w') => awake_any m w' (hL.on hb))
  have RA := Lib.hid (fun w => law_right_any n s w)
  have RB := Lib.hid (fun w => law_right_any k t w)
  cases eA : rightF n s
  · rw [eA] at RA
    go_enter Tryz.func6, Tryz.ntmps6
    go_wp2_with (first
      | (go_at_call 9
         with_reducible refine (RA.out _).mono ?_
         rintro e w2 ⟨rfl, hb⟩
         have hw2 : Below w.heap.size w w2 := hw1.trans (hb.mono hw1.size)
         have Aw2 := Aw1.below hb Aw1.lt
         have Bw2 := Bw1.below hb Bw1.lt
         clear hb cA0 cA1 fA0 fA1 cB0 cB1 fB0 fB1 Aw1 Bw1
         obtain ⟨cA0, cA1, fA0, fA1⟩ := Aw2.two
         have kAw2 : w.heap.size < w2.heap.size := Aw2.lt
         obtain ⟨cB0, cB1, fB0, fB1⟩ := Bw2.two
         have kBw2 : (w.heap.size + 1) < w2.heap.size := Bw2.lt)
      | (go_at_call 8
         refine (CW.out _ hw2).mono ?_
         rintro e w9 ⟨rfl, hb⟩
         have hw9 : Below w.heap.size w w9 := hw2.trans (hb.mono hw2.size)
         clear hb)
      | (go_at_call 8
         refine (CW.out _ (by go_grown)).mono ?_
         rintro e w1 ⟨rfl, hb⟩
         have Aw1 : Blk w1 w.heap.size #[.int .i64 n, .int .i64 s] 23 := (Blk.alloc (Blk.here rfl rfl) _).below hb (by simp; omega)
         have Bw1 : Blk w1 (w.heap.size + 1) #[.int .i64 k, .int .i64 t] 23 := (Blk.here rfl (by simp)).below hb (by simp)
         have hw1 : Below w.heap.size w w1 := Below.trans (by go_grown) (hb.mono (by simp; omega))
         obtain ⟨cA0, cA1, fA0, fA1⟩ := Aw1.two
         obtain ⟨cB0, cB1, fB0, fB1⟩ := Bw1.two
         have kAw1 : w.heap.size < w1.heap.size := Aw1.lt
         have kBw1 : w.heap.size + 1 < w1.heap.size := Bw1.lt
         clear hb))
    exact bodyPost_ret (v := .bool true) (by simp [results, Tryz.results6, go_sem]) rfl ⟨rfl, hw9⟩
  rw [eA] at RA
  cases eB : rightF k t
  · rw [eB] at RB
    go_enter Tryz.func6, Tryz.ntmps6
    go_wp2_with (first
      | (go_at_call 9
         with_reducible refine (RA.out _).mono ?_
         rintro e w2 ⟨rfl, hb⟩
         have hw2 : Below w.heap.size w w2 := hw1.trans (hb.mono hw1.size)
         have Aw2 := Aw1.below hb Aw1.lt
         have Bw2 := Bw1.below hb Bw1.lt
         clear hb cA0 cA1 fA0 fA1 cB0 cB1 fB0 fB1 Aw1 Bw1
         obtain ⟨cA0, cA1, fA0, fA1⟩ := Aw2.two
         have kAw2 : w.heap.size < w2.heap.size := Aw2.lt
         obtain ⟨cB0, cB1, fB0, fB1⟩ := Bw2.two
         have kBw2 : (w.heap.size + 1) < w2.heap.size := Bw2.lt)
      | (go_at_call 9
         with_reducible refine (RB.out _).mono ?_
         rintro e w3 ⟨rfl, hb⟩
         have hw3 : Below w.heap.size w w3 := hw2.trans (hb.mono hw2.size)
         have Aw3 := Aw2.below hb Aw2.lt
         have Bw3 := Bw2.below hb Bw2.lt
         clear hb cA0 cA1 fA0 fA1 cB0 cB1 fB0 fB1 Aw2 Bw2
         obtain ⟨cA0, cA1, fA0, fA1⟩ := Aw3.two
         have kAw3 : w.heap.size < w3.heap.size := Aw3.lt
         obtain ⟨cB0, cB1, fB0, fB1⟩ := Bw3.two
         have kBw3 : (w.heap.size + 1) < w3.heap.size := Bw3.lt)
      | (go_at_call 8
         refine (CW.out _ hw3).mono ?_
         rintro e w9 ⟨rfl, hb⟩
         have hw9 : Below w.heap.size w w9 := hw3.trans (hb.mono hw3.size)
         clear hb)
      | (go_at_call 8
         refine (CW.out _ (by go_grown)).mono ?_
         rintro e w1 ⟨rfl, hb⟩
         have Aw1 : Blk w1 w.heap.size #[.int .i64 n, .int .i64 s] 23 := (Blk.alloc (Blk.here rfl rfl) _).below hb (by simp; omega)
         have Bw1 : Blk w1 (w.heap.size + 1) #[.int .i64 k, .int .i64 t] 23 := (Blk.here rfl (by simp)).below hb (by simp)
         have hw1 : Below w.heap.size w w1 := Below.trans (by go_grown) (hb.mono (by simp; omega))
         obtain ⟨cA0, cA1, fA0, fA1⟩ := Aw1.two
         obtain ⟨cB0, cB1, fB0, fB1⟩ := Bw1.two
         have kAw1 : w.heap.size < w1.heap.size := Aw1.lt
         have kBw1 : w.heap.size + 1 < w1.heap.size := Bw1.lt
         clear hb))
    exact bodyPost_ret (v := .bool true) (by simp [results, Tryz.results6, go_sem]) rfl ⟨rfl, hw9⟩
  rw [eB] at RB
  have hA := (rightF_iff n s).1 eA
  have hB := (rightF_iff k t).1 eB
  obtain ⟨s', rfl⟩ := rt_nat hA
  obtain ⟨t', rfl⟩ := rt_nat hB
  have HA := Lib.hid hA
  have HB := Lib.hid hB
  clear hA hB eA eB
  go_enter Tryz.func6, Tryz.ntmps6
  go_wp2_with (first
    | (go_at_call 9
       with_reducible refine (RA.out _).mono ?_
       rintro e w2 ⟨rfl, hb⟩
       have hw2 : Below w.heap.size w w2 := hw1.trans (hb.mono hw1.size)
       have Aw2 := Aw1.below hb Aw1.lt
       have Bw2 := Bw1.below hb Bw1.lt
       clear hb cA0 cA1 fA0 fA1 cB0 cB1 fB0 fB1 Aw1 Bw1
       obtain ⟨cA0, cA1, fA0, fA1⟩ := Aw2.two
       have kAw2 : w.heap.size < w2.heap.size := Aw2.lt
       obtain ⟨cB0, cB1, fB0, fB1⟩ := Bw2.two
       have kBw2 : (w.heap.size + 1) < w2.heap.size := Bw2.lt)
    | (go_at_call 9
       with_reducible refine (RB.out _).mono ?_
       rintro e w3 ⟨rfl, hb⟩
       have hw3 : Below w.heap.size w w3 := hw2.trans (hb.mono hw2.size)
       have Aw3 := Aw2.below hb Aw2.lt
       have Bw3 := Bw2.below hb Bw2.lt
       clear hb cA0 cA1 fA0 fA1 cB0 cB1 fB0 fB1 Aw2 Bw2
       obtain ⟨cA0, cA1, fA0, fA1⟩ := Aw3.two
       have kAw3 : w.heap.size < w3.heap.size := Aw3.lt
       obtain ⟨cB0, cB1, fB0, fB1⟩ := Bw3.two
       have kBw3 : (w.heap.size + 1) < w3.heap.size := Bw3.lt)
    | (go_at_call 8
       refine (CW.out _ (by go_grown)).mono ?_
       rintro e w1 ⟨rfl, hb⟩
       have Aw1 : Blk w1 w.heap.size #[.int .i64 n, .int .i64 (s' : Int)] 23 := (Blk.alloc (Blk.here rfl rfl) _).below hb (by simp; omega)
       have Bw1 : Blk w1 (w.heap.size + 1) #[.int .i64 k, .int .i64 (t' : Int)] 23 := (Blk.here rfl (by simp)).below hb (by simp)
       have hw1 : Below w.heap.size w w1 := Below.trans (by go_grown) (hb.mono (by simp; omega))
       obtain ⟨cA0, cA1, fA0, fA1⟩ := Aw1.two
       obtain ⟨cB0, cB1, fB0, fB1⟩ := Bw1.two
       have kAw1 : w.heap.size < w1.heap.size := Aw1.lt
       have kBw1 : w.heap.size + 1 < w1.heap.size := Bw1.lt
       clear hb))
  go_loopg [5] 6 (fun m kv wr => ∃ (kd : Nat), m + kd = 6 ∧ kv = .int .i64 (kd : Int) ∧ Below w.heap.size w wr ∧ Blk wr w.heap.size #[.int .i64 n, .int .i64 (s' : Int)] 23 ∧ Blk wr (w.heap.size + 1) #[.int .i64 k, .int .i64 (t' : Int)] 23)
  case atStart => exact ⟨0, rfl, rfl, hw3, Aw3, Bw3⟩
  case round =>
    obtain ⟨kd, hm, rfl, hwr, Awr, Bwr⟩ := hrel
    clear cA0 cA1 fA0 fA1 cB0 cB1 fB0 fB1 kAw3 kBw3 Aw3 Bw3 hw3
    obtain ⟨cA0, cA1, fA0, fA1⟩ := Awr.two
    obtain ⟨cB0, cB1, fB0, fB1⟩ := Bwr.two
    have kAwr : w.heap.size < wr.heap.size := Awr.lt
    have kBwr : (w.heap.size + 1) < wr.heap.size := Bwr.lt
    rcases (show kd = 0 ∨ kd = 1 ∨ kd = 2 ∨ kd = 3 ∨ kd = 4 ∨ kd = 5 ∨ kd = 6 by omega) with rfl | rfl | rfl | rfl | rfl | rfl | rfl
    · have P := Lib.hid (fun w => add_any n k s' t' HA.out HB.out w)
      have D := Lib.hid (fun w => do0_any n k s' t' HA.out HB.out w)
      obtain ⟨r1, r2, r3, hr⟩ : ∃ r1 r2 r3, addF n s' k t' = (r1, r2, r3) := ⟨_, _, _, rfl⟩
      rw [hr] at P D
      clear hr
      go_upto_region 20 with (first
        | (go_at_call 11
           with_reducible refine (P.out _).mono ?_
           rintro e w5 ⟨rfl, hb⟩
           have hw5 : Below w.heap.size w w5 := (hwr.alloc hwr.size _).trans (hb.mono (by have := hwr.size; simp; omega))
           have Aw5 := (Awr.alloc _).below hb (by have := Awr.lt; simp; omega)
           have Bw5 := (Bwr.alloc _).below hb (by have := Bwr.lt; simp; omega)
           have Cw5 : Blk w5 wr.heap.size #[.int .i64 0, .int .i64 0] 23 := (Blk.here rfl rfl).below hb (by simp)
           clear hb cA0 cA1 fA0 fA1 cB0 cB1 fB0 fB1 Awr Bwr
           obtain ⟨cA0, cA1, fA0, fA1⟩ := Aw5.two
           have kAw5 : w.heap.size < w5.heap.size := Aw5.lt
           obtain ⟨cB0, cB1, fB0, fB1⟩ := Bw5.two
           have kBw5 : (w.heap.size + 1) < w5.heap.size := Bw5.lt
           obtain ⟨cC0, cC1, fC0, fC1⟩ := Cw5.two
           have kCw5 : wr.heap.size < w5.heap.size := Cw5.lt))
      refine wp_worldT ?_
      intro w6 hw6e
      have hw6 : Below w.heap.size w w6 := by rw [hw6e]; exact (hw5.setCell (by simpa using hwr.size) _).setCell (by simpa using hwr.size) _
      have Aw6 : Blk w6 w.heap.size #[.int .i64 n, .int .i64 (s' : Int)] 23 := by rw [hw6e]; exact (Aw5.other (by simp; omega) _).other (by simp; omega) _
      have Bw6 : Blk w6 (w.heap.size + 1) #[.int .i64 k, .int .i64 (t' : Int)] 23 := by rw [hw6e]; exact (Bw5.other (by simp; omega) _).other (by simp; omega) _
      have Cw6 : Blk w6 wr.heap.size #[.int .i64 r1, .int .i64 r2] 23 := by rw [hw6e]; exact (Cw5.set 0 _).set 1 _
      clear hw6e cA0 cA1 fA0 fA1 cB0 cB1 fB0 fB1 cC0 cC1 fC0 fC1 Aw5 Bw5 Cw5 kAw5 kBw5 kCw5
      obtain ⟨cA0, cA1, fA0, fA1⟩ := Aw6.two
      obtain ⟨cB0, cB1, fB0, fB1⟩ := Bw6.two
      obtain ⟨cC0, cC1, fC0, fC1⟩ := Cw6.two
      have kAw6 : w.heap.size < w6.heap.size := Aw6.lt
      have kBw6 : (w.heap.size + 1) < w6.heap.size := Bw6.lt
      have kCw6 : wr.heap.size < w6.heap.size := Cw6.lt
      go_wp2_with (first
        | (go_at_call 29
           with_reducible refine (D.out _).mono ?_
           rintro e w7 ⟨rfl, hb⟩
           have hw7 : Below w.heap.size w w7 := hw6.trans (hb.mono hw6.size)
           have Aw7 := Aw6.below hb Aw6.lt
           have Bw7 := Bw6.below hb Bw6.lt
           have Cw7 := Cw6.below hb Cw6.lt
           clear hb cA0 cA1 fA0 fA1 cB0 cB1 fB0 fB1 cC0 cC1 fC0 fC1 Aw6 Bw6 Cw6
           obtain ⟨cA0, cA1, fA0, fA1⟩ := Aw7.two
           have kAw7 : w.heap.size < w7.heap.size := Aw7.lt
           obtain ⟨cB0, cB1, fB0, fB1⟩ := Bw7.two
           have kBw7 : (w.heap.size + 1) < w7.heap.size := Bw7.lt
           obtain ⟨cC0, cC1, fC0, fC1⟩ := Cw7.two
           have kCw7 : wr.heap.size < w7.heap.size := Cw7.lt))
      go_roundg 5
      case measure => omega
      case rel => exact ⟨1, rfl, rfl, hw7, Aw7, Bw7⟩
    · have P := Lib.hid (fun w => sub_any n k s' t' HA.out HB.out w)
      have D := Lib.hid (fun w => do1_any n k s' t' HA.out HB.out w)
      obtain ⟨r1, r2, r3, hr⟩ : ∃ r1 r2 r3, subF n s' k t' = (r1, r2, r3) := ⟨_, _, _, rfl⟩
      rw [hr] at P D
      clear hr
      go_upto_region 20 with (first
        | (go_at_call 23
           with_reducible refine (P.out _).mono ?_
           rintro e w5 ⟨rfl, hb⟩
           have hw5 : Below w.heap.size w w5 := (hwr.alloc hwr.size _).trans (hb.mono (by have := hwr.size; simp; omega))
           have Aw5 := (Awr.alloc _).below hb (by have := Awr.lt; simp; omega)
           have Bw5 := (Bwr.alloc _).below hb (by have := Bwr.lt; simp; omega)
           have Cw5 : Blk w5 wr.heap.size #[.int .i64 0, .int .i64 0] 23 := (Blk.here rfl rfl).below hb (by simp)
           clear hb cA0 cA1 fA0 fA1 cB0 cB1 fB0 fB1 Awr Bwr
           obtain ⟨cA0, cA1, fA0, fA1⟩ := Aw5.two
           have kAw5 : w.heap.size < w5.heap.size := Aw5.lt
           obtain ⟨cB0, cB1, fB0, fB1⟩ := Bw5.two
           have kBw5 : (w.heap.size + 1) < w5.heap.size := Bw5.lt
           obtain ⟨cC0, cC1, fC0, fC1⟩ := Cw5.two
           have kCw5 : wr.heap.size < w5.heap.size := Cw5.lt))
      refine wp_worldT ?_
      intro w6 hw6e
      have hw6 : Below w.heap.size w w6 := by rw [hw6e]; exact (hw5.setCell (by simpa using hwr.size) _).setCell (by simpa using hwr.size) _
      have Aw6 : Blk w6 w.heap.size #[.int .i64 n, .int .i64 (s' : Int)] 23 := by rw [hw6e]; exact (Aw5.other (by simp; omega) _).other (by simp; omega) _
      have Bw6 : Blk w6 (w.heap.size + 1) #[.int .i64 k, .int .i64 (t' : Int)] 23 := by rw [hw6e]; exact (Bw5.other (by simp; omega) _).other (by simp; omega) _
      have Cw6 : Blk w6 wr.heap.size #[.int .i64 r1, .int .i64 r2] 23 := by rw [hw6e]; exact (Cw5.set 0 _).set 1 _
      clear hw6e cA0 cA1 fA0 fA1 cB0 cB1 fB0 fB1 cC0 cC1 fC0 fC1 Aw5 Bw5 Cw5 kAw5 kBw5 kCw5
      obtain ⟨cA0, cA1, fA0, fA1⟩ := Aw6.two
      obtain ⟨cB0, cB1, fB0, fB1⟩ := Bw6.two
      obtain ⟨cC0, cC1, fC0, fC1⟩ := Cw6.two
      have kAw6 : w.heap.size < w6.heap.size := Aw6.lt
      have kBw6 : (w.heap.size + 1) < w6.heap.size := Bw6.lt
      have kCw6 : wr.heap.size < w6.heap.size := Cw6.lt
      go_wp2_with (first
        | (go_at_call 29
           with_reducible refine (D.out _).mono ?_
           rintro e w7 ⟨rfl, hb⟩
           have hw7 : Below w.heap.size w w7 := hw6.trans (hb.mono hw6.size)
           have Aw7 := Aw6.below hb Aw6.lt
           have Bw7 := Bw6.below hb Bw6.lt
           have Cw7 := Cw6.below hb Cw6.lt
           clear hb cA0 cA1 fA0 fA1 cB0 cB1 fB0 fB1 cC0 cC1 fC0 fC1 Aw6 Bw6 Cw6
           obtain ⟨cA0, cA1, fA0, fA1⟩ := Aw7.two
           have kAw7 : w.heap.size < w7.heap.size := Aw7.lt
           obtain ⟨cB0, cB1, fB0, fB1⟩ := Bw7.two
           have kBw7 : (w.heap.size + 1) < w7.heap.size := Bw7.lt
           obtain ⟨cC0, cC1, fC0, fC1⟩ := Cw7.two
           have kCw7 : wr.heap.size < w7.heap.size := Cw7.lt))
      go_roundg 4
      case measure => omega
      case rel => exact ⟨2, rfl, rfl, hw7, Aw7, Bw7⟩
    · have P := Lib.hid (fun w => mul_any n k s' t' HA.out HB.out w)
      have D := Lib.hid (fun w => do2_any n k s' t' HA.out HB.out w)
      obtain ⟨r1, r2, r3, hr⟩ : ∃ r1 r2 r3, mulF n s' k t' = (r1, r2, r3) := ⟨_, _, _, rfl⟩
      rw [hr] at P D
      clear hr
      go_upto_region 20 with (first
        | (go_at_call 25
           with_reducible refine (P.out _).mono ?_
           rintro e w5 ⟨rfl, hb⟩
           have hw5 : Below w.heap.size w w5 := (hwr.alloc hwr.size _).trans (hb.mono (by have := hwr.size; simp; omega))
           have Aw5 := (Awr.alloc _).below hb (by have := Awr.lt; simp; omega)
           have Bw5 := (Bwr.alloc _).below hb (by have := Bwr.lt; simp; omega)
           have Cw5 : Blk w5 wr.heap.size #[.int .i64 0, .int .i64 0] 23 := (Blk.here rfl rfl).below hb (by simp)
           clear hb cA0 cA1 fA0 fA1 cB0 cB1 fB0 fB1 Awr Bwr
           obtain ⟨cA0, cA1, fA0, fA1⟩ := Aw5.two
           have kAw5 : w.heap.size < w5.heap.size := Aw5.lt
           obtain ⟨cB0, cB1, fB0, fB1⟩ := Bw5.two
           have kBw5 : (w.heap.size + 1) < w5.heap.size := Bw5.lt
           obtain ⟨cC0, cC1, fC0, fC1⟩ := Cw5.two
           have kCw5 : wr.heap.size < w5.heap.size := Cw5.lt))
      refine wp_worldT ?_
      intro w6 hw6e
      have hw6 : Below w.heap.size w w6 := by rw [hw6e]; exact (hw5.setCell (by simpa using hwr.size) _).setCell (by simpa using hwr.size) _
      have Aw6 : Blk w6 w.heap.size #[.int .i64 n, .int .i64 (s' : Int)] 23 := by rw [hw6e]; exact (Aw5.other (by simp; omega) _).other (by simp; omega) _
      have Bw6 : Blk w6 (w.heap.size + 1) #[.int .i64 k, .int .i64 (t' : Int)] 23 := by rw [hw6e]; exact (Bw5.other (by simp; omega) _).other (by simp; omega) _
      have Cw6 : Blk w6 wr.heap.size #[.int .i64 r1, .int .i64 r2] 23 := by rw [hw6e]; exact (Cw5.set 0 _).set 1 _
      clear hw6e cA0 cA1 fA0 fA1 cB0 cB1 fB0 fB1 cC0 cC1 fC0 fC1 Aw5 Bw5 Cw5 kAw5 kBw5 kCw5
      obtain ⟨cA0, cA1, fA0, fA1⟩ := Aw6.two
      obtain ⟨cB0, cB1, fB0, fB1⟩ := Bw6.two
      obtain ⟨cC0, cC1, fC0, fC1⟩ := Cw6.two
      have kAw6 : w.heap.size < w6.heap.size := Aw6.lt
      have kBw6 : (w.heap.size + 1) < w6.heap.size := Bw6.lt
      have kCw6 : wr.heap.size < w6.heap.size := Cw6.lt
      go_wp2_with (first
        | (go_at_call 29
           with_reducible refine (D.out _).mono ?_
           rintro e w7 ⟨rfl, hb⟩
           have hw7 : Below w.heap.size w w7 := hw6.trans (hb.mono hw6.size)
           have Aw7 := Aw6.below hb Aw6.lt
           have Bw7 := Bw6.below hb Bw6.lt
           have Cw7 := Cw6.below hb Cw6.lt
           clear hb cA0 cA1 fA0 fA1 cB0 cB1 fB0 fB1 cC0 cC1 fC0 fC1 Aw6 Bw6 Cw6
           obtain ⟨cA0, cA1, fA0, fA1⟩ := Aw7.two
           have kAw7 : w.heap.size < w7.heap.size := Aw7.lt
           obtain ⟨cB0, cB1, fB0, fB1⟩ := Bw7.two
           have kBw7 : (w.heap.size + 1) < w7.heap.size := Bw7.lt
           obtain ⟨cC0, cC1, fC0, fC1⟩ := Cw7.two
           have kCw7 : wr.heap.size < w7.heap.size := Cw7.lt))
      go_roundg 3
      case measure => omega
      case rel => exact ⟨3, rfl, rfl, hw7, Aw7, Bw7⟩
    · have P := Lib.hid (fun w => div_any n k s' t' HA.out HB.out w)
      have D := Lib.hid (fun w => do3_any n k s' t' HA.out HB.out w)
      obtain ⟨r1, r2, r3, hr⟩ : ∃ r1 r2 r3, divF n s' k t' = (r1, r2, r3) := ⟨_, _, _, rfl⟩
      rw [hr] at P D
      clear hr
      go_upto_region 20 with (first
        | (go_at_call 26
           with_reducible refine (P.out _).mono ?_
           rintro e w5 ⟨rfl, hb⟩
           have hw5 : Below w.heap.size w w5 := (hwr.alloc hwr.size _).trans (hb.mono (by have := hwr.size; simp; omega))
           have Aw5 := (Awr.alloc _).below hb (by have := Awr.lt; simp; omega)
           have Bw5 := (Bwr.alloc _).below hb (by have := Bwr.lt; simp; omega)
           have Cw5 : Blk w5 wr.heap.size #[.int .i64 0, .int .i64 0] 23 := (Blk.here rfl rfl).below hb (by simp)
           clear hb cA0 cA1 fA0 fA1 cB0 cB1 fB0 fB1 Awr Bwr
           obtain ⟨cA0, cA1, fA0, fA1⟩ := Aw5.two
           have kAw5 : w.heap.size < w5.heap.size := Aw5.lt
           obtain ⟨cB0, cB1, fB0, fB1⟩ := Bw5.two
           have kBw5 : (w.heap.size + 1) < w5.heap.size := Bw5.lt
           obtain ⟨cC0, cC1, fC0, fC1⟩ := Cw5.two
           have kCw5 : wr.heap.size < w5.heap.size := Cw5.lt))
      refine wp_worldT ?_
      intro w6 hw6e
      have hw6 : Below w.heap.size w w6 := by rw [hw6e]; exact (hw5.setCell (by simpa using hwr.size) _).setCell (by simpa using hwr.size) _
      have Aw6 : Blk w6 w.heap.size #[.int .i64 n, .int .i64 (s' : Int)] 23 := by rw [hw6e]; exact (Aw5.other (by simp; omega) _).other (by simp; omega) _
      have Bw6 : Blk w6 (w.heap.size + 1) #[.int .i64 k, .int .i64 (t' : Int)] 23 := by rw [hw6e]; exact (Bw5.other (by simp; omega) _).other (by simp; omega) _
      have Cw6 : Blk w6 wr.heap.size #[.int .i64 r1, .int .i64 r2] 23 := by rw [hw6e]; exact (Cw5.set 0 _).set 1 _
      clear hw6e cA0 cA1 fA0 fA1 cB0 cB1 fB0 fB1 cC0 cC1 fC0 fC1 Aw5 Bw5 Cw5 kAw5 kBw5 kCw5
      obtain ⟨cA0, cA1, fA0, fA1⟩ := Aw6.two
      obtain ⟨cB0, cB1, fB0, fB1⟩ := Bw6.two
      obtain ⟨cC0, cC1, fC0, fC1⟩ := Cw6.two
      have kAw6 : w.heap.size < w6.heap.size := Aw6.lt
      have kBw6 : (w.heap.size + 1) < w6.heap.size := Bw6.lt
      have kCw6 : wr.heap.size < w6.heap.size := Cw6.lt
      go_wp2_with (first
        | (go_at_call 29
           with_reducible refine (D.out _).mono ?_
           rintro e w7 ⟨rfl, hb⟩
           have hw7 : Below w.heap.size w w7 := hw6.trans (hb.mono hw6.size)
           have Aw7 := Aw6.below hb Aw6.lt
           have Bw7 := Bw6.below hb Bw6.lt
           have Cw7 := Cw6.below hb Cw6.lt
           clear hb cA0 cA1 fA0 fA1 cB0 cB1 fB0 fB1 cC0 cC1 fC0 fC1 Aw6 Bw6 Cw6
           obtain ⟨cA0, cA1, fA0, fA1⟩ := Aw7.two
           have kAw7 : w.heap.size < w7.heap.size := Aw7.lt
           obtain ⟨cB0, cB1, fB0, fB1⟩ := Bw7.two
           have kBw7 : (w.heap.size + 1) < w7.heap.size := Bw7.lt
           obtain ⟨cC0, cC1, fC0, fC1⟩ := Cw7.two
           have kCw7 : wr.heap.size < w7.heap.size := Cw7.lt))
      go_roundg 2
      case measure => omega
      case rel => exact ⟨4, rfl, rfl, hw7, Aw7, Bw7⟩
    · have P := Lib.hid (fun w => idiv_any n k s' t' HA.out HB.out w)
      have D := Lib.hid (fun w => do4_any n k s' t' HA.out HB.out w)
      obtain ⟨r1, r2, r3, hr⟩ : ∃ r1 r2 r3, idivF n s' k t' = (r1, r2, r3) := ⟨_, _, _, rfl⟩
      rw [hr] at P D
      clear hr
      go_upto_region 20 with (first
        | (go_at_call 27
           with_reducible refine (P.out _).mono ?_
           rintro e w5 ⟨rfl, hb⟩
           have hw5 : Below w.heap.size w w5 := (hwr.alloc hwr.size _).trans (hb.mono (by have := hwr.size; simp; omega))
           have Aw5 := (Awr.alloc _).below hb (by have := Awr.lt; simp; omega)
           have Bw5 := (Bwr.alloc _).below hb (by have := Bwr.lt; simp; omega)
           have Cw5 : Blk w5 wr.heap.size #[.int .i64 0, .int .i64 0] 23 := (Blk.here rfl rfl).below hb (by simp)
           clear hb cA0 cA1 fA0 fA1 cB0 cB1 fB0 fB1 Awr Bwr
           obtain ⟨cA0, cA1, fA0, fA1⟩ := Aw5.two
           have kAw5 : w.heap.size < w5.heap.size := Aw5.lt
           obtain ⟨cB0, cB1, fB0, fB1⟩ := Bw5.two
           have kBw5 : (w.heap.size + 1) < w5.heap.size := Bw5.lt
           obtain ⟨cC0, cC1, fC0, fC1⟩ := Cw5.two
           have kCw5 : wr.heap.size < w5.heap.size := Cw5.lt))
      refine wp_worldT ?_
      intro w6 hw6e
      have hw6 : Below w.heap.size w w6 := by rw [hw6e]; exact (hw5.setCell (by simpa using hwr.size) _).setCell (by simpa using hwr.size) _
      have Aw6 : Blk w6 w.heap.size #[.int .i64 n, .int .i64 (s' : Int)] 23 := by rw [hw6e]; exact (Aw5.other (by simp; omega) _).other (by simp; omega) _
      have Bw6 : Blk w6 (w.heap.size + 1) #[.int .i64 k, .int .i64 (t' : Int)] 23 := by rw [hw6e]; exact (Bw5.other (by simp; omega) _).other (by simp; omega) _
      have Cw6 : Blk w6 wr.heap.size #[.int .i64 r1, .int .i64 r2] 23 := by rw [hw6e]; exact (Cw5.set 0 _).set 1 _
      clear hw6e cA0 cA1 fA0 fA1 cB0 cB1 fB0 fB1 cC0 cC1 fC0 fC1 Aw5 Bw5 Cw5 kAw5 kBw5 kCw5
      obtain ⟨cA0, cA1, fA0, fA1⟩ := Aw6.two
      obtain ⟨cB0, cB1, fB0, fB1⟩ := Bw6.two
      obtain ⟨cC0, cC1, fC0, fC1⟩ := Cw6.two
      have kAw6 : w.heap.size < w6.heap.size := Aw6.lt
      have kBw6 : (w.heap.size + 1) < w6.heap.size := Bw6.lt
      have kCw6 : wr.heap.size < w6.heap.size := Cw6.lt
      go_wp2_with (first
        | (go_at_call 29
           with_reducible refine (D.out _).mono ?_
           rintro e w7 ⟨rfl, hb⟩
           have hw7 : Below w.heap.size w w7 := hw6.trans (hb.mono hw6.size)
           have Aw7 := Aw6.below hb Aw6.lt
           have Bw7 := Bw6.below hb Bw6.lt
           have Cw7 := Cw6.below hb Cw6.lt
           clear hb cA0 cA1 fA0 fA1 cB0 cB1 fB0 fB1 cC0 cC1 fC0 fC1 Aw6 Bw6 Cw6
           obtain ⟨cA0, cA1, fA0, fA1⟩ := Aw7.two
           have kAw7 : w.heap.size < w7.heap.size := Aw7.lt
           obtain ⟨cB0, cB1, fB0, fB1⟩ := Bw7.two
           have kBw7 : (w.heap.size + 1) < w7.heap.size := Bw7.lt
           obtain ⟨cC0, cC1, fC0, fC1⟩ := Cw7.two
           have kCw7 : wr.heap.size < w7.heap.size := Cw7.lt))
      go_roundg 1
      case measure => omega
      case rel => exact ⟨5, rfl, rfl, hw7, Aw7, Bw7⟩
    · have P := Lib.hid (fun w => mod_any n k s' t' HA.out HB.out w)
      have D := Lib.hid (fun w => do5_any n k s' t' HA.out HB.out w)
      obtain ⟨r1, r2, r3, hr⟩ : ∃ r1 r2 r3, modF n s' k t' = (r1, r2, r3) := ⟨_, _, _, rfl⟩
      rw [hr] at P D
      clear hr
      go_upto_region 20 with (first
        | (go_at_call 28
           with_reducible refine (P.out _).mono ?_
           rintro e w5 ⟨rfl, hb⟩
           have hw5 : Below w.heap.size w w5 := (hwr.alloc hwr.size _).trans (hb.mono (by have := hwr.size; simp; omega))
           have Aw5 := (Awr.alloc _).below hb (by have := Awr.lt; simp; omega)
           have Bw5 := (Bwr.alloc _).below hb (by have := Bwr.lt; simp; omega)
           have Cw5 : Blk w5 wr.heap.size #[.int .i64 0, .int .i64 0] 23 := (Blk.here rfl rfl).below hb (by simp)
           clear hb cA0 cA1 fA0 fA1 cB0 cB1 fB0 fB1 Awr Bwr
           obtain ⟨cA0, cA1, fA0, fA1⟩ := Aw5.two
           have kAw5 : w.heap.size < w5.heap.size := Aw5.lt
           obtain ⟨cB0, cB1, fB0, fB1⟩ := Bw5.two
           have kBw5 : (w.heap.size + 1) < w5.heap.size := Bw5.lt
           obtain ⟨cC0, cC1, fC0, fC1⟩ := Cw5.two
           have kCw5 : wr.heap.size < w5.heap.size := Cw5.lt))
      refine wp_worldT ?_
      intro w6 hw6e
      have hw6 : Below w.heap.size w w6 := by rw [hw6e]; exact (hw5.setCell (by simpa using hwr.size) _).setCell (by simpa using hwr.size) _
      have Aw6 : Blk w6 w.heap.size #[.int .i64 n, .int .i64 (s' : Int)] 23 := by rw [hw6e]; exact (Aw5.other (by simp; omega) _).other (by simp; omega) _
      have Bw6 : Blk w6 (w.heap.size + 1) #[.int .i64 k, .int .i64 (t' : Int)] 23 := by rw [hw6e]; exact (Bw5.other (by simp; omega) _).other (by simp; omega) _
      have Cw6 : Blk w6 wr.heap.size #[.int .i64 r1, .int .i64 r2] 23 := by rw [hw6e]; exact (Cw5.set 0 _).set 1 _
      clear hw6e cA0 cA1 fA0 fA1 cB0 cB1 fB0 fB1 cC0 cC1 fC0 fC1 Aw5 Bw5 Cw5 kAw5 kBw5 kCw5
      obtain ⟨cA0, cA1, fA0, fA1⟩ := Aw6.two
      obtain ⟨cB0, cB1, fB0, fB1⟩ := Bw6.two
      obtain ⟨cC0, cC1, fC0, fC1⟩ := Cw6.two
      have kAw6 : w.heap.size < w6.heap.size := Aw6.lt
      have kBw6 : (w.heap.size + 1) < w6.heap.size := Bw6.lt
      have kCw6 : wr.heap.size < w6.heap.size := Cw6.lt
      go_wp2_with (first
        | (go_at_call 29
           with_reducible refine (D.out _).mono ?_
           rintro e w7 ⟨rfl, hb⟩
           have hw7 : Below w.heap.size w w7 := hw6.trans (hb.mono hw6.size)
           have Aw7 := Aw6.below hb Aw6.lt
           have Bw7 := Bw6.below hb Bw6.lt
           have Cw7 := Cw6.below hb Cw6.lt
           clear hb cA0 cA1 fA0 fA1 cB0 cB1 fB0 fB1 cC0 cC1 fC0 fC1 Aw6 Bw6 Cw6
           obtain ⟨cA0, cA1, fA0, fA1⟩ := Aw7.two
           have kAw7 : w.heap.size < w7.heap.size := Aw7.lt
           obtain ⟨cB0, cB1, fB0, fB1⟩ := Bw7.two
           have kBw7 : (w.heap.size + 1) < w7.heap.size := Bw7.lt
           obtain ⟨cC0, cC1, fC0, fC1⟩ := Cw7.two
           have kCw7 : wr.heap.size < w7.heap.size := Cw7.lt))
      go_roundg 0
      case measure => omega
      case rel => exact ⟨6, rfl, rfl, hw7, Aw7, Bw7⟩
    · have P := Lib.hid (fun w => cmp_any n k s' t' HA.out HB.out w)
      have D := Lib.hid (fun w => rcmp_any n k s' t' HA.out HB.out w)
      generalize cmpF n s' k t' = cv at *
      go_wp2_with fail
      refine region_steps 13 [some 99, some 100, some 101, some 102, some 103, some 104, some 105, some 106, some 107, some 108, some 109, some 110, some 111] (by kernel_rfl) (by kernel_rfl) ?_
      -- 0: Op.load 23 (Operand.tmp 2)
      apply ls_val
      · intro x w' hb hpre K hK
        have hc := (bcell hb).1
        clear hpre
        simp only [frL, Act.put, List.setIfInBounds_toArray, List.set_cons_zero, List.set_cons_succ, Nat.zero_add, Nat.reduceAdd] at hK ⊢
        have HK := Lib.hid hK
        clear hK
        refine Held.mk ?_
        go_simp
        exact HK.out _ (Below.refl _ _)
      -- 1: Op.load 23 (Operand.tmp 3)
      apply ls_val
      · intro x w' hb hpre K hK
        have hc := (bcell hb).1
        clear hpre
        simp only [frL, Act.put, List.setIfInBounds_toArray, List.set_cons_zero, List.set_cons_succ, Nat.zero_add, Nat.reduceAdd] at hK ⊢
        have HK := Lib.hid hK
        clear hK
        refine Held.mk ?_
        go_simp
        exact HK.out _ (Below.refl _ _)
      -- 2: Op.call { callee := Callee.value (Operand.func 10), args := #[Operand.tmp 99, Operand.tmp 
      apply ls_val
      · intro x w' hb hpre K hK
        have hc := (bcell hb).1
        simp [preds, Region.binds, phi, MP.val, MP.box, MP.row] at hpre
        simp only [frL, Act.put, List.setIfInBounds_toArray, List.set_cons_zero, List.set_cons_succ, Nat.zero_add, Nat.reduceAdd, hpre] at hK ⊢
        have HK := Lib.hid hK
        clear hK
        refine Held.mk ?_
        go_simp
        (with_reducible refine (P.out _).mono ?_)
        rintro e w1 ⟨rfl, hb1⟩
        dsimp only
        exact HK.out _ hb1
      -- 3: Op.fieldAddr 23 (Operand.tmp 2) 0
      apply ls_val
      · intro x w' hb hpre K hK
        have hc := (bcell hb).1
        clear hpre
        simp only [frL, Act.put, List.setIfInBounds_toArray, List.set_cons_zero, List.set_cons_succ, Nat.zero_add, Nat.reduceAdd] at hK ⊢
        have HK := Lib.hid hK
        clear hK
        refine Held.mk ?_
        go_simp
        exact HK.out _ (Below.refl _ _)
      -- 4: Op.load 3 (Operand.tmp 102)
      apply ls_val
      · intro x w' hb hpre K hK
        have hc := (bcell hb).1
        simp [preds, Region.binds, phi, MP.val, MP.box, MP.row] at hpre
        simp only [frL, Act.put, List.setIfInBounds_toArray, List.set_cons_zero, List.set_cons_succ, Nat.zero_add, Nat.reduceAdd, hpre] at hK ⊢
        have HK := Lib.hid hK
        clear hK
        refine Held.mk ?_
        go_simp
        exact HK.out _ (Below.refl _ _)
      -- 5: Op.fieldAddr 23 (Operand.tmp 2) 1
      apply ls_val
      · intro x w' hb hpre K hK
        have hc := (bcell hb).1
        clear hpre
        simp only [frL, Act.put, List.setIfInBounds_toArray, List.set_cons_zero, List.set_cons_succ, Nat.zero_add, Nat.reduceAdd] at hK ⊢
        have HK := Lib.hid hK
        clear hK
        refine Held.mk ?_
        go_simp
        exact HK.out _ (Below.refl _ _)
      -- 6: Op.load 3 (Operand.tmp 104)
      apply ls_val
      · intro x w' hb hpre K hK
        have hc := (bcell hb).1
        simp [preds, Region.binds, phi, MP.val, MP.box, MP.row] at hpre
        simp only [frL, Act.put, List.setIfInBounds_toArray, List.set_cons_zero, List.set_cons_succ, Nat.zero_add, Nat.reduceAdd, hpre] at hK ⊢
        have HK := Lib.hid hK
        clear hK
        refine Held.mk ?_
        go_simp
        exact HK.out _ (Below.refl _ _)
      -- 7: Op.fieldAddr 23 (Operand.tmp 3) 0
      apply ls_val
      · intro x w' hb hpre K hK
        have hc := (bcell hb).1
        clear hpre
        simp only [frL, Act.put, List.setIfInBounds_toArray, List.set_cons_zero, List.set_cons_succ, Nat.zero_add, Nat.reduceAdd] at hK ⊢
        have HK := Lib.hid hK
        clear hK
        refine Held.mk ?_
        go_simp
        exact HK.out _ (Below.refl _ _)
      -- 8: Op.load 3 (Operand.tmp 106)
      apply ls_val
      · intro x w' hb hpre K hK
        have hc := (bcell hb).1
        simp [preds, Region.binds, phi, MP.val, MP.box, MP.row] at hpre
        simp only [frL, Act.put, List.setIfInBounds_toArray, List.set_cons_zero, List.set_cons_succ, Nat.zero_add, Nat.reduceAdd, hpre] at hK ⊢
        have HK := Lib.hid hK
        clear hK
        refine Held.mk ?_
        go_simp
        exact HK.out _ (Below.refl _ _)
      -- 9: Op.fieldAddr 23 (Operand.tmp 3) 1
      apply ls_val
      · intro x w' hb hpre K hK
        have hc := (bcell hb).1
        clear hpre
        simp only [frL, Act.put, List.setIfInBounds_toArray, List.set_cons_zero, List.set_cons_succ, Nat.zero_add, Nat.reduceAdd] at hK ⊢
        have HK := Lib.hid hK
        clear hK
        refine Held.mk ?_
        go_simp
        exact HK.out _ (Below.refl _ _)
      -- 10: Op.load 3 (Operand.tmp 108)
      apply ls_val
      · intro x w' hb hpre K hK
        have hc := (bcell hb).1
        simp [preds, Region.binds, phi, MP.val, MP.box, MP.row] at hpre
        simp only [frL, Act.put, List.setIfInBounds_toArray, List.set_cons_zero, List.set_cons_succ, Nat.zero_add, Nat.reduceAdd, hpre] at hK ⊢
        have HK := Lib.hid hK
        clear hK
        refine Held.mk ?_
        go_simp
        exact HK.out _ (Below.refl _ _)
      -- 11: Op.call { callee := Callee.value (Operand.func 30), args := #[Operand.tmp 103, Operand.tmp
      apply ls_val
      · intro x w' hb hpre K hK
        have hc := (bcell hb).1
        simp [preds, Region.binds, phi, MP.val, MP.box, MP.row] at hpre
        simp only [frL, Act.put, List.setIfInBounds_toArray, List.set_cons_zero, List.set_cons_succ, Nat.zero_add, Nat.reduceAdd, hpre] at hK ⊢
        have HK := Lib.hid hK
        clear hK
        refine Held.mk ?_
        go_simp
        (with_reducible refine (D.out _).mono ?_)
        rintro e w1 ⟨rfl, hb1⟩
        dsimp only
        exact HK.out _ hb1
      -- 12: Op.binOp BinOp.eql 3 (Operand.tmp 101) (Operand.tmp 110) 3
      apply ls_val
      · intro x w' hb hpre K hK
        have hc := (bcell hb).1
        simp [preds, Region.binds, phi, MP.val, MP.box, MP.row] at hpre
        simp only [frL, Act.put, List.setIfInBounds_toArray, List.set_cons_zero, List.set_cons_succ, Nat.zero_add, Nat.reduceAdd, hpre] at hK ⊢
        have HK := Lib.hid hK
        clear hK
        refine Held.mk ?_
        go_simp
        exact HK.out _ (Below.refl _ _)
      intro x w' hb hp
      simp only [List.cons_append, List.nil_append, phis, MP.val, MP.box, MP.row, frL, Act.put, List.setIfInBounds_toArray, List.set_cons_zero, List.set_cons_succ, Nat.zero_add, Nat.reduceAdd] at hp ⊢
      obtain ⟨h0, h1, h2, h3, h4, h5, h6, h7, h8, h9, h10, h11, h12, -⟩ := hp
      simp only [h0, h1, h2, h3, h4, h5, h6, h7, h8, h9, h10, h11, h12]
      clear h0 h1 h2 h3 h4 h5 h6 h7 h8 h9 h10 h11 h12
      have hw9 : Below w.heap.size w w' := hwr.trans (hb.mono hwr.size)
      go_wp2_with fail
      exact bodyPost_ret (v := .bool true) (by simp [results, Tryz.results6, go_sem]) rfl ⟨rfl, hw9⟩
end Go.Proofs.YtgbghbeolndfiaaGreatDoor

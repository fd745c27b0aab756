/- The document's examples of casts. -/
import Derived.Test.YtaoobajokhcimaaGreatDoorAtQ
import Derived.Deep.RegionHeld3
import Derived.Lib.QuietBelow
import Derived.BigQuiet
set_option linter.unusedSimpArgs false
set_option linter.unusedVariables false
set_option linter.constructorNameAsVariable false
namespace Go.Proofs.YtaoobajokhcimaaGreatDoor
open Go.RowKit Go.Sort

theorem aw_num : numberF (bs [32, 55, 32]) = (7, 0, 0) := by decide +kernel
theorem aw1 : castF (rawA (bs [32, 55, 32])) 1 = (ofA 7, 0) := by
  refine (castF1 rfl).trans ?_
  show (if ([32, 55, 32] : List UInt8).contains 46 then (zeroA, (50 : Int)) else if (numberF (bs [32, 55, 32])).2.2 == 0 then (ofA (numberF (bs [32, 55, 32])).1, 0) else (zeroA, (numberF (bs [32, 55, 32])).2.2)) = _
  rw [aw_num]
  rfl
theorem aw2 : castF (rawA (bs [55, 46, 48])) 1 = (zeroA, 50) := by
  refine (castF1 rfl).trans ?_
  show (if ([55, 46, 48] : List UInt8).contains 46 then (zeroA, (50 : Int)) else if (numberF (bs [55, 46, 48])).2.2 == 0 then (ofA (numberF (bs [55, 46, 48])).1, 0) else (zeroA, (numberF (bs [55, 46, 48])).2.2)) = _
  rfl
theorem aw3 : castF (numA (-25) 1) 1 = (ofA (-2), 0) := by
  refine (castF1 rfl).trans ?_
  show (ofA (truncF (-25) 1), (0 : Int)) = _
  rw [show truncF (-25) 1 = -2 by decide +kernel]

set_option maxRecDepth 100000 in
set_option maxHeartbeats 2000000 in
theorem awake_any (m : Int) (w : World) (hL : Laid m w) : Calls Tryz.prog 12 #[] w fun e w' => e = .returned (.bool true) ∧ Below w.heap.size w w' := by
  have CW1 := Lib.hid (fun w => raw_any ⟨#[32, 55, 32]⟩ w)
  have CW2 := Lib.hid (fun w => raw_any ⟨#[55, 46, 48]⟩ w)
  have CN := Lib.hid (fun w => number_of_any (-25) 1 w)
  have CO1 := Lib.hid (fun w => of_any 7 w)
  have CO2 := Lib.hid (fun w => of_any (-2) w)
  have CT := Lib.hid (fun w => truth_any true w)
  have C1 := Lib.hid (show ∀ w', Below w.heap.size w w' → Calls Tryz.prog 14 #[.agg #[.int .i64 5, .int .i64 0, .int .i64 0, .string ⟨#[32, 55, 32]⟩, .bool false], .int .i64 1] w' fun e w'' => e = .returned (.tuple #[.agg #[.int .i64 1, .int .i64 7, .int .i64 0, .string (bs []), .bool false], .int .i64 0]) ∧ Below w'.heap.size w' w'' from fun w' hb => by
    have h := cast_any (rawA (bs [32, 55, 32])) (RA.raw _ (valid_ascii _ (by decide))) (by decide) 1 m w' (hL.on hb)
    rw [aw1] at h
    exact h)
  have C2 := Lib.hid (show ∀ w', Below w.heap.size w w' → Calls Tryz.prog 14 #[.agg #[.int .i64 5, .int .i64 0, .int .i64 0, .string ⟨#[55, 46, 48]⟩, .bool false], .int .i64 1] w' fun e w'' => e = .returned (.tuple #[.agg #[.int .i64 0, .int .i64 0, .int .i64 0, .string (bs []), .bool false], .int .i64 50]) ∧ Below w'.heap.size w' w'' from fun w' hb => by
    have h := cast_any (rawA (bs [55, 46, 48])) (RA.raw _ (valid_ascii _ (by decide))) (by decide) 1 m w' (hL.on hb)
    rw [aw2] at h
    exact h)
  have C3 := Lib.hid (show ∀ w', Below w.heap.size w w' → Calls Tryz.prog 14 #[.agg #[.int .i64 2, .int .i64 (-25), .int .i64 1, .string (bs []), .bool false], .int .i64 1] w' fun e w'' => e = .returned (.tuple #[.agg #[.int .i64 1, .int .i64 (-2), .int .i64 0, .string (bs []), .bool false], .int .i64 0]) ∧ Below w'.heap.size w' w'' from fun w' hb => by
    have h := cast_any (numA (-25) 1) (RA.dec _ _ ⟨by omega, by omega, by omega, by omega, by omega⟩) (by decide) 1 m w' (hL.on hb)
    rw [aw3] at h
    exact h)
  have CS := Lib.hid (show ∀ w', Below w.heap.size w w' → Calls Tryz.prog 25 #[.agg #[.int .i64 4, .int .i64 0, .int .i64 0, .string (bs []), .bool true]] w' fun e w'' => e = .returned (.string ⟨#[116, 114, 117, 101]⟩) ∧ Below w'.heap.size w' w'' from fun w' hb => string_any (truthA true) (RA.bool true) m w' (hL.on hb))
  clear hL
  go_enter Tryz.func12, Tryz.ntmps12
  go_wp2_with (first
      | (go_at_call 22; with_reducible refine (CW1.out _).mono ?_; rintro e wa ⟨rfl, hb⟩
         have ha := hb
         clear hb)
      | (go_at_call 14; with_reducible refine (C1.out _ ha).mono ?_; rintro e w1 ⟨rfl, hb⟩
         have hw1 := ha.trans (hb.mono ha.size)
         clear hb)
      | (go_at_call 22; with_reducible refine (CW2.out _).mono ?_; rintro e wb ⟨rfl, hb⟩
         have B1 : Blk wb w1.heap.size #[.int .i64 1, .int .i64 7, .int .i64 0, .string (bs []), .bool false] 24 := (Blk.here rfl rfl).below hb (by simp)
         have hwb : Below w.heap.size w wb := (hw1.alloc hw1.size _).trans (hb.mono (by have := hw1.size; simp; omega))
         clear hb)
      | (go_at_call 14; with_reducible refine (C2.out _ hwb).mono ?_; rintro e w2 ⟨rfl, hb⟩
         have B2 := B1.below hb B1.lt
         have hw2 := hwb.trans (hb.mono hwb.size)
         clear hb)
      | (go_at_call 24; with_reducible refine (CN.out _).mono ?_; rintro e wc ⟨rfl, hb⟩
         have B3 := (B2.alloc _).below hb (B2.alloc _).lt
         have hwc : Below w.heap.size w wc := (hw2.alloc hw2.size _).trans (hb.mono (by have := hw2.size; simp; omega))
         clear hb)
      | (go_at_call 14; with_reducible refine (C3.out _ hwc).mono ?_; rintro e w3 ⟨rfl, hb⟩
         have B4 := B3.below hb B3.lt
         have hw3 := hwc.trans (hb.mono hwc.size)
         clear hb))
  have B5 := B4.alloc (.cells #[.int .i64 1, .int .i64 (-2), .int .i64 0, .string (bs []), .bool false] 24)
  have D5 : Blk (w3.alloc (.cells #[.int .i64 1, .int .i64 (-2), .int .i64 0, .string (bs []), .bool false] 24)) w3.heap.size #[.int .i64 1, .int .i64 (-2), .int .i64 0, .string (bs []), .bool false] 24 := Blk.here rfl rfl
  have hw4 := hw3.alloc hw3.size (.cells #[.int .i64 1, .int .i64 (-2), .int .i64 0, .string (bs []), .bool false] 24)
  obtain ⟨⟨a0, a1, a2, a3, a4⟩, -⟩ := B5.five
  obtain ⟨⟨c0, c1, c2, c3, c4⟩, -⟩ := D5.five
  generalize w3.alloc (.cells #[.int .i64 1, .int .i64 (-2), .int .i64 0, .string (bs []), .bool false] 24) = W at *
  have r0 := cell_regrown a0
  have r1 := cell_regrown a1
  have r2 := cell_regrown a2
  have r3 := cell_regrown a3
  have r4 := cell_regrown a4
  have s0 := cell_regrown c0
  have s1 := cell_regrown c1
  have s2 := cell_regrown c2
  have s3 := cell_regrown c3
  have s4 := cell_regrown c4
  refine wp_region_quiet_below (by kernel_rfl) (by kernel_rfl) ?_
  repeat (go_big_quiet_step (first
      | (go_at_call 19; first | (with_reducible exact Calls.regrown_of (CO1.out _)) | (with_reducible exact Calls.regrown_of (CO2.out _)))
      | (go_at_call 23; with_reducible exact Calls.regrown_of (CT.out _))
      | (go_at_call 25; with_reducible exact Calls.regrown_of (CS.out _ (hw4.trans ((below_regrown _ _ _).mono hw4.size))))))
  refine wpQuiet_nil ?_
  intro _ hw'
  obtain ⟨⟨dq, osq⟩, hw''⟩ := hw'
  subst hw''
  have hgq := below_regrown W dq osq
  generalize grow (redrawn W dq) osq = wq at *
  have hw5 := hw4.trans (hgq.mono hw4.size)
  go_wp2_with fail
  exact bodyPost_ret (v := .bool true) (by simp [results, Tryz.results12, go_sem]) rfl ⟨rfl, hw5⟩
end Go.Proofs.YtaoobajokhcimaaGreatDoor

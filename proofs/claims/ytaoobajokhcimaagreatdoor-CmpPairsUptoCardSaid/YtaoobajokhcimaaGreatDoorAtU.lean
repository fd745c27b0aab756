/- AtomBack's walk: a value cast to a text and back is the value. -/
import Derived.Test.YtaoobajokhcimaaGreatDoorAtS
import Derived.Test.YtaoobajokhcimaaGreatDoorAtR
set_option linter.unusedSimpArgs false
set_option linter.unusedVariables false
set_option linter.constructorNameAsVariable false
namespace Go.Proofs.YtaoobajokhcimaaGreatDoor
open Go.RowKit

set_option maxRecDepth 100000 in
set_option maxHeartbeats 4000000 in
theorem back_walk (k n s : Int) (t : ByteArray) (b : Bool) (ht : t.size ≤ 1100000) (m : Int) (w : World) (hL : Laid m w) : Calls Tryz.prog 3 #[.agg #[.int .i64 k, .int .i64 n, .int .i64 s, .string t, .bool b]] w fun e w' => e = .returned (.bool true) ∧ Below w.heap.size w w' := by
  have CA := Lib.hid (fun w' (hb : Below w.heap.size w w') => awake_any m w' (hL.on hb))
  have CR := Lib.hid (fun w => rright_any k n s t b (by omega) w)
  cases hr : rightA ⟨k, n, s, t, b⟩
  · rw [hr] at CR
    clear hr ht hL
    go_enter Tryz.func3, Tryz.ntmps3

    go_wp2_with (first
      | (go_at_call 12; with_reducible refine (CA.out _ hw2).mono ?_; rintro e w3 ⟨rfl, hb⟩
         have hw3 := hw2.trans (hb.mono hw2.size)
         clear hb)
      | (go_at_call 12; with_reducible refine (CA.out _ (by go_grown)).mono ?_; rintro e w1 ⟨rfl, hb⟩
         have B0' : Blk w1 w.heap.size #[.int .i64 k, .int .i64 n, .int .i64 s, .string t, .bool b] 24 := (Blk.here rfl (by simp)).below hb (by simp <;> omega)
         have hw1 : Below w.heap.size w w1 := Below.trans (by go_grown) (hb.mono (by simp <;> omega))
         have B0 := B0'
         have kB0 : w.heap.size < w1.heap.size := B0.lt
         obtain ⟨B00, B01, B02, B03, B04⟩ := B0.five.1
         clear B0'
         clear hb)
      | (go_at_call 13; with_reducible refine (CR.out _).mono ?_; rintro e w2 ⟨rfl, hb⟩
         have B0' := B0.below hb B0.lt
         have hw2 : Below w.heap.size w w2 := hw1.trans (hb.mono hw1.size)
         clear B0 kB0 B00 B01 B02 B03 B04
         have B0 := B0'
         have kB0 : w.heap.size < w2.heap.size := B0.lt
         obtain ⟨B00, B01, B02, B03, B04⟩ := B0.five.1
         clear B0'
         clear hb))
    refine bodyPost_ret (v := .bool true) (by simp [results, Tryz.results3, go_sem]) rfl ⟨rfl, hw3⟩
  · have hR := rightA_RA hr
    rw [hr] at CR
    have hs := text_size hR
    have CS := Lib.hid (show ∀ w', Below w.heap.size w w' → Calls Tryz.prog 14 #[.agg #[.int .i64 k, .int .i64 n, .int .i64 s, .string t, .bool b], .int .i64 3] w' fun e w'' => e = .returned (.tuple #[.agg #[.int .i64 3, .int .i64 0, .int .i64 0, .string (textF ⟨k, n, s, t, b⟩), .bool false], .int .i64 0]) ∧ Below w'.heap.size w' w'' from fun w' hb => by
      have h := cast_any _ hR (by show t.size ≤ 2000000; omega) 3 m w' (hL.on hb)
      rw [cast_text hR] at h
      exact h)
    have CU := Lib.hid (show ∀ w', Below w.heap.size w w' → Calls Tryz.prog 14 #[.agg #[.int .i64 k, .int .i64 n, .int .i64 s, .string t, .bool b], .int .i64 5] w' fun e w'' => e = .returned (.tuple #[.agg #[.int .i64 5, .int .i64 0, .int .i64 0, .string (textF ⟨k, n, s, t, b⟩), .bool false], .int .i64 0]) ∧ Below w'.heap.size w' w'' from fun w' hb => by
      have h := cast_any _ hR (by show t.size ≤ 2000000; omega) 5 m w' (hL.on hb)
      rw [cast_raw hR] at h
      exact h)
    have CO := Lib.hid (show ∀ w', Below w.heap.size w w' → Calls Tryz.prog 14 #[.agg #[.int .i64 k, .int .i64 n, .int .i64 s, .string t, .bool b], .int .i64 k] w' fun e w'' => e = .returned (.tuple #[.agg #[.int .i64 k, .int .i64 n, .int .i64 s, .string t, .bool b], .int .i64 0]) ∧ Below w'.heap.size w' w'' from fun w' hb => by
      have h := cast_any _ hR (by show t.size ≤ 2000000; omega) k m w' (hL.on hb)
      rw [show castF ⟨k, n, s, t, b⟩ k = (⟨k, n, s, t, b⟩, 0) from cast_own hR] at h
      exact h)
    have CX := Lib.hid (show ∀ w', Below w.heap.size w w' → Calls Tryz.prog 14 #[.agg #[.int .i64 3, .int .i64 0, .int .i64 0, .string (textF ⟨k, n, s, t, b⟩), .bool false], .int .i64 k] w' fun e w'' => e = .returned (.tuple #[.agg #[.int .i64 k, .int .i64 n, .int .i64 s, .string t, .bool b], .int .i64 0]) ∧ Below w'.heap.size w' w'' from fun w' hb => by
      have h := cast_any _ (RA_text hR) (by show (textF ⟨k, n, s, t, b⟩).size ≤ 2000000; have hs' : (textF ⟨k, n, s, t, b⟩).size ≤ t.size + 40 := hs; omega) k m w' (hL.on hb)
      rw [show castF (textA (textF ⟨k, n, s, t, b⟩)) k = (⟨k, n, s, t, b⟩, 0) from back_text hR] at h
      exact h)
    have CY := Lib.hid (show ∀ w', Below w.heap.size w w' → Calls Tryz.prog 14 #[.agg #[.int .i64 5, .int .i64 0, .int .i64 0, .string (textF ⟨k, n, s, t, b⟩), .bool false], .int .i64 k] w' fun e w'' => e = .returned (.tuple #[.agg #[.int .i64 k, .int .i64 n, .int .i64 s, .string t, .bool b], .int .i64 0]) ∧ Below w'.heap.size w' w'' from fun w' hb => by
      have h := cast_any _ (RA_raw hR) (by show (textF ⟨k, n, s, t, b⟩).size ≤ 2000000; have hs' : (textF ⟨k, n, s, t, b⟩).size ≤ t.size + 40 := hs; omega) k m w' (hL.on hb)
      rw [show castF (rawA (textF ⟨k, n, s, t, b⟩)) k = (⟨k, n, s, t, b⟩, 0) from back_raw hR] at h
      exact h)
    generalize textF ⟨k, n, s, t, b⟩ = Z at *
    clear hr ht hL hs hR
    go_enter Tryz.func3, Tryz.ntmps3

    go_wp2_with (first
      | (go_at_call 12; with_reducible refine (CA.out _ (by go_grown)).mono ?_; rintro e w1 ⟨rfl, hb⟩
         have B0' : Blk w1 w.heap.size #[.int .i64 k, .int .i64 n, .int .i64 s, .string t, .bool b] 24 := (Blk.here rfl (by simp)).below hb (by simp <;> omega)
         have hw1 : Below w.heap.size w w1 := Below.trans (by go_grown) (hb.mono (by simp <;> omega))
         have B0 := B0'
         have kB0 : w.heap.size < w1.heap.size := B0.lt
         obtain ⟨B00, B01, B02, B03, B04⟩ := B0.five.1
         clear B0'
         clear hb)
      | (go_at_call 13; with_reducible refine (CR.out _).mono ?_; rintro e w2 ⟨rfl, hb⟩
         have B0' := B0.below hb B0.lt
         have hw2 : Below w.heap.size w w2 := hw1.trans (hb.mono hw1.size)
         clear B0 kB0 B00 B01 B02 B03 B04
         have B0 := B0'
         have kB0 : w.heap.size < w2.heap.size := B0.lt
         obtain ⟨B00, B01, B02, B03, B04⟩ := B0.five.1
         clear B0'
         clear hb)
      | (go_at_call 14; with_reducible refine (CS.out _ hw2).mono ?_; rintro e w3 ⟨rfl, hb⟩
         have B0' := B0.below hb B0.lt
         have hw3 : Below w.heap.size w w3 := hw2.trans (hb.mono hw2.size)
         clear B0 kB0 B00 B01 B02 B03 B04
         have B0 := B0'
         have kB0 : w.heap.size < w3.heap.size := B0.lt
         obtain ⟨B00, B01, B02, B03, B04⟩ := B0.five.1
         clear B0'
         clear hb)
      | (go_at_call 14; with_reducible refine (CU.out _ (Below.alloc hw3 hw3.size _)).mono ?_; rintro e w4 ⟨rfl, hb⟩
         have B0' := (B0.alloc _).below hb (B0.alloc _).lt
         have D3' : Blk w4 w3.heap.size #[.int .i64 3, .int .i64 0, .int .i64 0, .string Z, .bool false] 24 := (Blk.here rfl (by simp)).below hb (by simp <;> omega)
         have hw4 : Below w.heap.size w w4 := Below.trans (Below.alloc hw3 hw3.size _) (hb.mono (by have := hw3.size; simp <;> omega))
         clear B0 kB0 B00 B01 B02 B03 B04
         have B0 := B0'
         have kB0 : w.heap.size < w4.heap.size := B0.lt
         obtain ⟨B00, B01, B02, B03, B04⟩ := B0.five.1
         have D3 := D3'
         have kD3 : w3.heap.size < w4.heap.size := D3.lt
         obtain ⟨D30, D31, D32, D33, D34⟩ := D3.five.1
         clear B0' D3'
         clear hb)
      | (go_at_call 14; with_reducible refine (CO.out _ (Below.alloc hw4 hw4.size _)).mono ?_; rintro e w5 ⟨rfl, hb⟩
         have B0' := (B0.alloc _).below hb (B0.alloc _).lt
         have D3' := (D3.alloc _).below hb (D3.alloc _).lt
         have D5' : Blk w5 w4.heap.size #[.int .i64 5, .int .i64 0, .int .i64 0, .string Z, .bool false] 24 := (Blk.here rfl (by simp)).below hb (by simp <;> omega)
         have hw5 : Below w.heap.size w w5 := Below.trans (Below.alloc hw4 hw4.size _) (hb.mono (by have := hw4.size; simp <;> omega))
         clear B0 D3 kB0 B00 B01 B02 B03 B04 kD3 D30 D31 D32 D33 D34
         have B0 := B0'
         have kB0 : w.heap.size < w5.heap.size := B0.lt
         obtain ⟨B00, B01, B02, B03, B04⟩ := B0.five.1
         have D3 := D3'
         have kD3 : w3.heap.size < w5.heap.size := D3.lt
         obtain ⟨D30, D31, D32, D33, D34⟩ := D3.five.1
         have D5 := D5'
         have kD5 : w4.heap.size < w5.heap.size := D5.lt
         obtain ⟨D50, D51, D52, D53, D54⟩ := D5.five.1
         clear B0' D3' D5'
         clear hb)
      | (go_at_call 14; with_reducible refine (CX.out _ (Below.alloc hw5 hw5.size _)).mono ?_; rintro e w6 ⟨rfl, hb⟩
         have B0' := (B0.alloc _).below hb (B0.alloc _).lt
         have D3' := (D3.alloc _).below hb (D3.alloc _).lt
         have D5' := (D5.alloc _).below hb (D5.alloc _).lt
         have D7' : Blk w6 w5.heap.size #[.int .i64 k, .int .i64 n, .int .i64 s, .string t, .bool b] 24 := (Blk.here rfl (by simp)).below hb (by simp <;> omega)
         have hw6 : Below w.heap.size w w6 := Below.trans (Below.alloc hw5 hw5.size _) (hb.mono (by have := hw5.size; simp <;> omega))
         clear B0 D3 D5 kB0 B00 B01 B02 B03 B04 kD3 D30 D31 D32 D33 D34 kD5 D50 D51 D52 D53 D54
         have B0 := B0'
         have kB0 : w.heap.size < w6.heap.size := B0.lt
         obtain ⟨B00, B01, B02, B03, B04⟩ := B0.five.1
         have D3 := D3'
         have kD3 : w3.heap.size < w6.heap.size := D3.lt
         obtain ⟨D30, D31, D32, D33, D34⟩ := D3.five.1
         have D5 := D5'
         have kD5 : w4.heap.size < w6.heap.size := D5.lt
         obtain ⟨D50, D51, D52, D53, D54⟩ := D5.five.1
         have D7 := D7'
         have kD7 : w5.heap.size < w6.heap.size := D7.lt
         obtain ⟨D70, D71, D72, D73, D74⟩ := D7.five.1
         clear B0' D3' D5' D7'
         clear hb)
      | (go_at_call 14; with_reducible refine (CY.out _ (Below.alloc hw6 hw6.size _)).mono ?_; rintro e w7 ⟨rfl, hb⟩
         have B0' := (B0.alloc _).below hb (B0.alloc _).lt
         have D3' := (D3.alloc _).below hb (D3.alloc _).lt
         have D5' := (D5.alloc _).below hb (D5.alloc _).lt
         have D7' := (D7.alloc _).below hb (D7.alloc _).lt
         have D9' : Blk w7 w6.heap.size #[.int .i64 k, .int .i64 n, .int .i64 s, .string t, .bool b] 24 := (Blk.here rfl (by simp)).below hb (by simp <;> omega)
         have hw7 : Below w.heap.size w w7 := Below.trans (Below.alloc hw6 hw6.size _) (hb.mono (by have := hw6.size; simp <;> omega))
         clear B0 D3 D5 D7 kB0 B00 B01 B02 B03 B04 kD3 D30 D31 D32 D33 D34 kD5 D50 D51 D52 D53 D54 kD7 D70 D71 D72 D73 D74
         have B0 := B0'
         have kB0 : w.heap.size < w7.heap.size := B0.lt
         obtain ⟨B00, B01, B02, B03, B04⟩ := B0.five.1
         have D3 := D3'
         have kD3 : w3.heap.size < w7.heap.size := D3.lt
         obtain ⟨D30, D31, D32, D33, D34⟩ := D3.five.1
         have D5 := D5'
         have kD5 : w4.heap.size < w7.heap.size := D5.lt
         obtain ⟨D50, D51, D52, D53, D54⟩ := D5.five.1
         have D7 := D7'
         have kD7 : w5.heap.size < w7.heap.size := D7.lt
         obtain ⟨D70, D71, D72, D73, D74⟩ := D7.five.1
         have D9 := D9'
         have kD9 : w6.heap.size < w7.heap.size := D9.lt
         obtain ⟨D90, D91, D92, D93, D94⟩ := D9.five.1
         clear B0' D3' D5' D7' D9'
         clear hb))
    refine bodyPost_ret (v := .bool true) (by simp [results, Tryz.results3, go_sem]) rfl ⟨rfl, ?_⟩
    go_grown
    all_goals first | exact hw7 | exact hw7.size
end Go.Proofs.YtaoobajokhcimaaGreatDoor

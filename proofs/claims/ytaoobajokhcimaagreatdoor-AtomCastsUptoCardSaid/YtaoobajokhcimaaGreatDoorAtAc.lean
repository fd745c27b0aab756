/- AtomCasts' walk. -/
import Derived.Test.YtaoobajokhcimaaGreatDoorAtAb
import Derived.Test.YtaoobajokhcimaaGreatDoorAtS
set_option linter.unusedSimpArgs false
set_option linter.unusedVariables false
set_option linter.constructorNameAsVariable false
namespace Go.Proofs.YtaoobajokhcimaaGreatDoor
open Go.RowKit

set_option maxRecDepth 100000 in
set_option maxHeartbeats 4000000 in
theorem casts_walk (k n s : Int) (t : ByteArray) (b : Bool) (tk : Int) (ht : t.size ≤ 1100000) (m : Int) (w : World) (hL : LaidU m w) : Calls Tryz.prog 6 #[.agg #[.int .i64 k, .int .i64 n, .int .i64 s, .string t, .bool b], .int .i64 tk] w fun e w' => e = .returned (.bool true) ∧ Below w.heap.size w w' := by
  have CA := Lib.hid (fun w' (hb : Below w.heap.size w w') => awake_any m w' (hL.base.on hb))
  have CR := Lib.hid (fun w => rright_any k n s t b (by omega) w)
  cases hr : rightA ⟨k, n, s, t, b⟩
  · rw [hr] at CR
    clear hr ht hL
    go_enter Tryz.func6, Tryz.ntmps6
    go_wp2_with (first
      | (go_at_call 12; with_reducible refine (CA.out _ hw2).mono ?_; rintro e w3 ⟨rfl, hb⟩
         have hw3 := hw2.trans (hb.mono hw2.size)
         clear hb)
      | (go_at_call 12; with_reducible refine (CA.out _ (by go_grown)).mono ?_; rintro e w1 ⟨rfl, hb⟩
         have B0' : Blk w1 w.heap.size #[.int .i64 k, .int .i64 n, .int .i64 s, .string t, .bool b] 24 := (Blk.here rfl (by simp)).below hb (by simp <;> omega)
         have hw1 : Below w.heap.size w w1 := Below.trans (by go_grown) (hb.mono (by simp <;> omega))
         have B0 := B0'
         have kB0 : w.heap.size < w1.heap.size := B0.lt
         obtain ⟨B00, B01, B02, B03, B04⟩ := B0.five.1
         clear B0'
         clear hb)
      | (go_at_call 13; with_reducible refine (CR.out _).mono ?_; rintro e w2 ⟨rfl, hb⟩
         have B0' := B0.below hb B0.lt
         have hw2 : Below w.heap.size w w2 := hw1.trans (hb.mono hw1.size)
         clear B0 kB0 B00 B01 B02 B03 B04
         have B0 := B0'
         have kB0 : w.heap.size < w2.heap.size := B0.lt
         obtain ⟨B00, B01, B02, B03, B04⟩ := B0.five.1
         clear B0'
         clear hb))
    refine bodyPost_ret (v := .bool true) (by simp [results, Tryz.results6, go_sem]) rfl ⟨rfl, hw3⟩
  have hR := rightA_RA hr
  rw [hr] at CR
  have CC := Lib.hid (show ∀ w', Below w.heap.size w w' → Calls Tryz.prog 14 #[.agg #[.int .i64 k, .int .i64 n, .int .i64 s, .string t, .bool b], .int .i64 tk] w' fun e w'' => e = .returned (.tuple #[AV (castF ⟨k, n, s, t, b⟩ tk).1, .int .i64 (castF ⟨k, n, s, t, b⟩ tk).2]) ∧ Below w'.heap.size w' w'' from fun w' hb => cast_any ⟨k, n, s, t, b⟩ hR (by show t.size ≤ 2000000; omega) tk m w' (hL.base.on hb))
  have CD := Lib.hid (show ∀ w', Calls Tryz.prog 27 #[.agg #[.int .i64 k, .int .i64 n, .int .i64 s, .string t, .bool b], .int .i64 tk] w' fun e w'' => e = .returned (.tuple #[AV (castF ⟨k, n, s, t, b⟩ tk).1, .int .i64 (castF ⟨k, n, s, t, b⟩ tk).2]) ∧ Below w'.heap.size w' w'' from fun w' => rcast_any ⟨k, n, s, t, b⟩ hR (by show t.size ≤ 2000000; omega) tk w')
  have CB := Lib.hid (show ∀ w', Below w.heap.size w w' → Calls Tryz.prog 28 #[.agg #[.int .i64 k, .int .i64 n, .int .i64 s, .string t, .bool b], .int .i64 tk] w' fun e w'' => e = .returned (.bool ((castF ⟨k, n, s, t, b⟩ tk).2 == 0)) ∧ Below w'.heap.size w' w'' from fun w' hb => castable_any ⟨k, n, s, t, b⟩ hR (by show t.size ≤ 2000000; omega) tk m w' (hL.base.on hb))
  have hok := fun h0 => cast_RA hR tk h0
  have hsz : (castF ⟨k, n, s, t, b⟩ tk).1.t.size ≤ t.size + 40 := cast_size hR tk
  obtain ⟨⟨xk, xn, xs, xt, xb⟩, r, hx⟩ : ∃ x r, castF ⟨k, n, s, t, b⟩ tk = (x, r) := ⟨_, _, rfl⟩
  rw [hx] at CC CD CB hok hsz
  clear hx hr hR
  simp only at CC CD CB hok hsz
  cases e0 : (r == 0)
  · have en : (r != 0) = true := by unfold bne; rw [e0]; rfl
    rw [e0] at CB
    clear hL hok hsz ht
    go_enter Tryz.func6, Tryz.ntmps6
    go_wp2_with (first
      | (go_at_call 12; with_reducible refine (CA.out _ (by go_grown)).mono ?_; rintro e w1 ⟨rfl, hb⟩
         have B0' : Blk w1 w.heap.size #[.int .i64 k, .int .i64 n, .int .i64 s, .string t, .bool b] 24 := (Blk.here rfl (by simp)).below hb (by simp <;> omega)
         have hw1 : Below w.heap.size w w1 := Below.trans (by go_grown) (hb.mono (by simp <;> omega))
         have B0 := B0'
         have kB0 : w.heap.size < w1.heap.size := B0.lt
         obtain ⟨B00, B01, B02, B03, B04⟩ := B0.five.1
         clear B0'
         clear hb)
      | (go_at_call 13; with_reducible refine (CR.out _).mono ?_; rintro e w2 ⟨rfl, hb⟩
         have B0' := B0.below hb B0.lt
         have hw2 : Below w.heap.size w w2 := hw1.trans (hb.mono hw1.size)
         clear B0 kB0 B00 B01 B02 B03 B04
         have B0 := B0'
         have kB0 : w.heap.size < w2.heap.size := B0.lt
         obtain ⟨B00, B01, B02, B03, B04⟩ := B0.five.1
         clear B0'
         clear hb)
      | (go_at_call 14; with_reducible refine (CC.out _ hw2).mono ?_; rintro e w3 ⟨rfl, hb⟩
         have B0' := B0.below hb B0.lt
         have hw3 : Below w.heap.size w w3 := hw2.trans (hb.mono hw2.size)
         clear B0 kB0 B00 B01 B02 B03 B04
         have B0 := B0'
         have kB0 : w.heap.size < w3.heap.size := B0.lt
         obtain ⟨B00, B01, B02, B03, B04⟩ := B0.five.1
         clear B0'
         clear hb)
      | (go_at_call 27; with_reducible refine (CD.out _).mono ?_; rintro e w4 ⟨rfl, hb⟩
         have B0' := (B0.alloc _).below hb (B0.alloc _).lt
         have D3' : Blk w4 w3.heap.size #[.int .i64 xk, .int .i64 xn, .int .i64 xs, .string xt, .bool xb] 24 := (Blk.here rfl (by simp)).below hb (by simp <;> omega)
         have hw4 : Below w.heap.size w w4 := Below.trans (Below.alloc hw3 hw3.size _) (hb.mono (by have := hw3.size; simp <;> omega))
         clear B0 kB0 B00 B01 B02 B03 B04
         have B0 := B0'
         have kB0 : w.heap.size < w4.heap.size := B0.lt
         obtain ⟨B00, B01, B02, B03, B04⟩ := B0.five.1
         have D3 := D3'
         have kD3 : w3.heap.size < w4.heap.size := D3.lt
         obtain ⟨D30, D31, D32, D33, D34⟩ := D3.five.1
         clear B0' D3'
         clear hb)
      | (go_at_call 28; with_reducible refine (CB.out _ (Below.alloc hw4 hw4.size _)).mono ?_; rintro e w5 ⟨rfl, hb⟩
         have B0' := (B0.alloc _).below hb (B0.alloc _).lt
         have D3' := (D3.alloc _).below hb (D3.alloc _).lt
         have D5' : Blk w5 w4.heap.size #[.int .i64 xk, .int .i64 xn, .int .i64 xs, .string xt, .bool xb] 24 := (Blk.here rfl (by simp)).below hb (by simp <;> omega)
         have hw5 : Below w.heap.size w w5 := Below.trans (Below.alloc hw4 hw4.size _) (hb.mono (by have := hw4.size; simp <;> omega))
         clear B0 D3 kB0 B00 B01 B02 B03 B04 kD3 D30 D31 D32 D33 D34
         have B0 := B0'
         have kB0 : w.heap.size < w5.heap.size := B0.lt
         obtain ⟨B00, B01, B02, B03, B04⟩ := B0.five.1
         have D3 := D3'
         have kD3 : w3.heap.size < w5.heap.size := D3.lt
         obtain ⟨D30, D31, D32, D33, D34⟩ := D3.five.1
         have D5 := D5'
         have kD5 : w4.heap.size < w5.heap.size := D5.lt
         obtain ⟨D50, D51, D52, D53, D54⟩ := D5.five.1
         clear B0' D3' D5'
         clear hb))
    refine bodyPost_ret (v := .bool true) (by simp [results, Tryz.results6, go_sem]) rfl ⟨rfl, ?_⟩
    go_grown
    all_goals first | exact hw5 | exact hw5.size
  · have en : (r != 0) = false := by unfold bne; rw [e0]; rfl
    rw [e0] at CB
    have hRA := RA_rightA (hok (by simpa using e0))
    have CX := Lib.hid (show ∀ (w' : World) (q : Nat), Below w.heap.size w w' → Blk w' q #[.int .i64 xk, .int .i64 xn, .int .i64 xs, .string xt, .bool xb] 24 → Calls Tryz.prog 18 #[.slice (some ⟨q, 0, none⟩) 1 1] w' fun e w'' => e = .returned (.bool true) ∧ Below w'.heap.size w' w'' from fun w' q hb hB => by
      have h := aright_any (some ⟨q, 0, none⟩) 1 [⟨xk, xn, xs, xt, xb⟩] w' (TRow.one hB) (by simp) (fun x hx => by simp at hx; subst hx; show xt.size ≤ _; omega) (u8_on hL.u8 hb)
      rw [show [(⟨xk, xn, xs, xt, xb⟩ : At)].all rightA = true from by simp [hRA]] at h
      exact h)
    clear hL hok hsz ht hRA
    go_enter Tryz.func6, Tryz.ntmps6
    go_wp2_with (first
      | (go_at_call 12; with_reducible refine (CA.out _ (by go_grown)).mono ?_; rintro e w1 ⟨rfl, hb⟩
         have B0' : Blk w1 w.heap.size #[.int .i64 k, .int .i64 n, .int .i64 s, .string t, .bool b] 24 := (Blk.here rfl (by simp)).below hb (by simp <;> omega)
         have hw1 : Below w.heap.size w w1 := Below.trans (by go_grown) (hb.mono (by simp <;> omega))
         have B0 := B0'
         have kB0 : w.heap.size < w1.heap.size := B0.lt
         obtain ⟨B00, B01, B02, B03, B04⟩ := B0.five.1
         clear B0'
         clear hb)
      | (go_at_call 13; with_reducible refine (CR.out _).mono ?_; rintro e w2 ⟨rfl, hb⟩
         have B0' := B0.below hb B0.lt
         have hw2 : Below w.heap.size w w2 := hw1.trans (hb.mono hw1.size)
         clear B0 kB0 B00 B01 B02 B03 B04
         have B0 := B0'
         have kB0 : w.heap.size < w2.heap.size := B0.lt
         obtain ⟨B00, B01, B02, B03, B04⟩ := B0.five.1
         clear B0'
         clear hb)
      | (go_at_call 14; with_reducible refine (CC.out _ hw2).mono ?_; rintro e w3 ⟨rfl, hb⟩
         have B0' := B0.below hb B0.lt
         have hw3 : Below w.heap.size w w3 := hw2.trans (hb.mono hw2.size)
         clear B0 kB0 B00 B01 B02 B03 B04
         have B0 := B0'
         have kB0 : w.heap.size < w3.heap.size := B0.lt
         obtain ⟨B00, B01, B02, B03, B04⟩ := B0.five.1
         clear B0'
         clear hb)
      | (go_at_call 27; with_reducible refine (CD.out _).mono ?_; rintro e w4 ⟨rfl, hb⟩
         have B0' := (B0.alloc _).below hb (B0.alloc _).lt
         have D3' : Blk w4 w3.heap.size #[.int .i64 xk, .int .i64 xn, .int .i64 xs, .string xt, .bool xb] 24 := (Blk.here rfl (by simp)).below hb (by simp <;> omega)
         have hw4 : Below w.heap.size w w4 := Below.trans (Below.alloc hw3 hw3.size _) (hb.mono (by have := hw3.size; simp <;> omega))
         clear B0 kB0 B00 B01 B02 B03 B04
         have B0 := B0'
         have kB0 : w.heap.size < w4.heap.size := B0.lt
         obtain ⟨B00, B01, B02, B03, B04⟩ := B0.five.1
         have D3 := D3'
         have kD3 : w3.heap.size < w4.heap.size := D3.lt
         obtain ⟨D30, D31, D32, D33, D34⟩ := D3.five.1
         clear B0' D3'
         clear hb)
      | (go_at_call 28; with_reducible refine (CB.out _ (Below.alloc hw4 hw4.size _)).mono ?_; rintro e w5 ⟨rfl, hb⟩
         have B0' := (B0.alloc _).below hb (B0.alloc _).lt
         have D3' := (D3.alloc _).below hb (D3.alloc _).lt
         have D5' : Blk w5 w4.heap.size #[.int .i64 xk, .int .i64 xn, .int .i64 xs, .string xt, .bool xb] 24 := (Blk.here rfl (by simp)).below hb (by simp <;> omega)
         have hw5 : Below w.heap.size w w5 := Below.trans (Below.alloc hw4 hw4.size _) (hb.mono (by have := hw4.size; simp <;> omega))
         clear B0 D3 kB0 B00 B01 B02 B03 B04 kD3 D30 D31 D32 D33 D34
         have B0 := B0'
         have kB0 : w.heap.size < w5.heap.size := B0.lt
         obtain ⟨B00, B01, B02, B03, B04⟩ := B0.five.1
         have D3 := D3'
         have kD3 : w3.heap.size < w5.heap.size := D3.lt
         obtain ⟨D30, D31, D32, D33, D34⟩ := D3.five.1
         have D5 := D5'
         have kD5 : w4.heap.size < w5.heap.size := D5.lt
         obtain ⟨D50, D51, D52, D53, D54⟩ := D5.five.1
         clear B0' D3' D5'
         clear hb)
      | (go_at_call 18; with_reducible refine (CX.out _ w5.heap.size (Below.alloc hw5 hw5.size _) (Blk.here rfl rfl)).mono ?_; rintro e w6 ⟨rfl, hb⟩
         have hw6 := (Below.alloc hw5 hw5.size (.cells #[.int .i64 xk, .int .i64 xn, .int .i64 xs, .string xt, .bool xb] 24)).trans (hb.mono (by have := hw5.size; simp; omega))
         clear hb))
    refine bodyPost_ret (v := .bool true) (by simp [results, Tryz.results6, go_sem]) rfl ⟨rfl, ?_⟩
    go_grown
    all_goals first | exact hw6 | exact hw6.size
end Go.Proofs.YtaoobajokhcimaaGreatDoor

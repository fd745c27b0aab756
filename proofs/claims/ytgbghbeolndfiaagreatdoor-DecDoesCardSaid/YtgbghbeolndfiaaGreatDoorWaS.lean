/- The whole quotient, the rest. -/
import Derived.Test.YtgbghbeolndfiaaGreatDoorWaI
import Derived.Test.YtgbghbeolndfiaaGreatDoorWaM
set_option linter.unusedSimpArgs false
set_option linter.unusedVariables false
namespace Go.Proofs.YtgbghbeolndfiaaGreatDoor
open Go.RowKit

set_option maxHeartbeats 2000000 in
theorem idiv_any (n k : Int) (s t : Nat) (ha : Rt n s) (hB : Rt k t) (w : World) : Calls Tryz.prog 27 #[.agg #[.int .i64 n, .int .i64 (s : Int)], .agg #[.int .i64 k, .int .i64 (t : Int)]] w fun e w' =>
    e = .returned (.tuple #[.agg #[.int .i64 (idivF n s k t).1, .int .i64 (idivF n s k t).2.1], .int .i64 (idivF n s k t).2.2]) ∧ Below w.heap.size w w' := by
  obtain ⟨b1, b2, m1, m2, M, L⟩ := level_ex n k s t ha hB
  have hbx := L.bx
  have hbz := L.bz
  have hm9 := L.m9
  have CL := Lib.hid L.call
  have CN := Lib.hid (fun w => nought_any b2 m2 w)
  have hz : (m2 == 0) = (k == 0) := by
    have h1 := lvl_zero (s := (s : Int)) hB
    rw [← L.y] at h1
    have h2 : sgn b2 m2 = 0 ↔ m2 = 0 := by cases b2 <;> simp [sgn]
    rw [h2] at h1
    cases e : (m2 == 0)
    · simp at e
      exact (beq_eq_false_iff_ne.2 fun h => e (h1.2 h)).symm
    · simp at e
      exact (beq_iff_eq.2 (h1.1 e)).symm
  cases ez : (k == 0)
  · rw [ez] at hz
    have h0 : 0 < m2 := by simp at hz; omega
    have CO := Lib.hid (fun w => over_any b1 b2 m1 m2 (by omega) h0 (by omega) w)
    have hfit : idivF n s k t = fitW (b1 != b2) (m1 / m2) 0 := by
      unfold idivF
      rw [ez, fitW_Z, tdiv_sgn _ _ _ _ h0, L.x, L.y]
      simp only [Bool.false_eq_true, if_false]
      try rfl
    have CF := Lib.hid (fun w => fit_any (b1 != b2) (m1 / m2) 0 (by have := Nat.div_le_self m1 m2; omega) (by omega) w)
    rw [← hfit] at CF
    try simp only [Int.natCast_zero] at CF
    obtain ⟨b3, hb3⟩ : ∃ b, b = (b1 != b2) := ⟨_, rfl⟩
    obtain ⟨m3, hm3⟩ : ∃ m, m = m1 / m2 := ⟨_, rfl⟩
    obtain ⟨m4, hm4⟩ : ∃ m, m = m1 % m2 := ⟨_, rfl⟩
    rw [← hb3, ← hm3, ← hm4] at CO
    rw [← hb3, ← hm3] at CF
    obtain ⟨r, hr⟩ : ∃ r, r = idivF n s k t := ⟨_, rfl⟩
    rw [← hr] at CF ⊢
    obtain ⟨r1, r2, r3⟩ := r
    clear hr hfit hb3 hm3 hm4 hbx hbz hm9 L h0
    go_enter Tryz.func27, Tryz.ntmps27
    go_wp2_with (first
      | (go_at_call 32; with_reducible refine (CL.out _).mono ?_; rintro e w1 ⟨rfl, hb⟩
         have E2 : Blk w1 (w.heap.size + 1 + 1) #[.int .i64 0, .int .i64 0] 23 := (Blk.here rfl (by simp)).below hb (by simp)
         have hw1 : Below w.heap.size w w1 := Below.trans (by go_grown) (hb.mono (by simp; omega))
         clear hb)
      | (go_at_call 34; with_reducible refine (CN.out _).mono ?_; rintro e w3 ⟨rfl, rfl⟩; rw [hz]; simp only [wb])
      | (go_at_call 49; with_reducible refine (CO.out _).mono ?_; rintro e w4 ⟨rfl, hb⟩
         have F2 := (((E2.alloc _).alloc _).alloc _).below hb (by have := E2.lt; simp; omega)
         have hw4 : Below w.heap.size w w4 := Below.trans (((hw1.alloc hw1.size _).alloc (by have := hw1.size; simp; omega) _).alloc (by have := hw1.size; simp; omega) _) (hb.mono (by have := hw1.size; simp; omega))
         clear hb E2 hw1)
      | (go_at_call 35; with_reducible refine (CF.out _).mono ?_; rintro e w5 ⟨rfl, hb⟩
         have G2 := ((F2.alloc _).alloc _).below hb (by have := F2.lt; simp; omega)
         have hw5 : Below w.heap.size w w5 := Below.trans ((hw4.alloc hw4.size _).alloc (by have := hw4.size; simp; omega) _) (hb.mono (by have := hw4.size; simp; omega))
         obtain ⟨c0, c1, f0, f1⟩ := G2.two
         clear hb F2 hw4))
    refine bodyPost_ret (v := .tuple #[.agg #[.int .i64 r1, .int .i64 r2], .int .i64 r3]) (by simp [results, Tryz.results27, go_sem, c0, c1]) rfl ⟨rfl, ?_⟩
    go_grown
    all_goals first | exact hw5 | exact hw5.size
  · rw [ez] at hz
    have hfit : idivF n s k t = (0, 0, 52) := by
      unfold idivF
      rw [ez]
      rfl
    rw [hfit]
    clear hfit hbx hbz hm9 L
    go_enter Tryz.func27, Tryz.ntmps27
    go_wp2_with (first
      | (go_at_call 32; with_reducible refine (CL.out _).mono ?_; rintro e w1 ⟨rfl, hb⟩
         have E2 : Blk w1 (w.heap.size + 1 + 1) #[.int .i64 0, .int .i64 0] 23 := (Blk.here rfl (by simp)).below hb (by simp)
         have hw1 : Below w.heap.size w w1 := Below.trans (by go_grown) (hb.mono (by simp; omega))
         clear hb)
      | (go_at_call 34; with_reducible refine (CN.out _).mono ?_; rintro e w3 ⟨rfl, h3⟩; rw [hz]
         have E3 : Blk w3 (w.heap.size + 1 + 1) #[.int .i64 0, .int .i64 0] 23 := by rw [h3]; exact ((E2.alloc _).alloc _).alloc _
         have hw3 : Below w.heap.size w w3 := by rw [h3]; exact ((hw1.alloc hw1.size _).alloc (by have := hw1.size; simp; omega) _).alloc (by have := hw1.size; simp; omega) _
         clear h3
         obtain ⟨c0, c1, f0, f1⟩ := E3.two))
    refine bodyPost_ret (v := .tuple #[.agg #[.int .i64 0, .int .i64 0], .int .i64 52]) (by simp [results, Tryz.results27, go_sem, c0, c1]) rfl ⟨rfl, ?_⟩
    go_grown
    all_goals first | exact hw3 | exact hw3.size
set_option maxHeartbeats 2000000 in
theorem mod_any (n k : Int) (s t : Nat) (ha : Rt n s) (hB : Rt k t) (w : World) : Calls Tryz.prog 28 #[.agg #[.int .i64 n, .int .i64 (s : Int)], .agg #[.int .i64 k, .int .i64 (t : Int)]] w fun e w' =>
    e = .returned (.tuple #[.agg #[.int .i64 (modF n s k t).1, .int .i64 (modF n s k t).2.1], .int .i64 (modF n s k t).2.2]) ∧ Below w.heap.size w w' := by
  obtain ⟨b1, b2, m1, m2, M, L⟩ := level_ex n k s t ha hB
  have hbx := L.bx
  have hbz := L.bz
  have hm9 := L.m9
  have CL := Lib.hid L.call
  have CN := Lib.hid (fun w => nought_any b2 m2 w)
  have hz : (m2 == 0) = (k == 0) := by
    have h1 := lvl_zero (s := (s : Int)) hB
    rw [← L.y] at h1
    have h2 : sgn b2 m2 = 0 ↔ m2 = 0 := by cases b2 <;> simp [sgn]
    rw [h2] at h1
    cases e : (m2 == 0)
    · simp at e
      exact (beq_eq_false_iff_ne.2 fun h => e (h1.2 h)).symm
    · simp at e
      exact (beq_iff_eq.2 (h1.1 e)).symm
  cases ez : (k == 0)
  · rw [ez] at hz
    have h0 : 0 < m2 := by simp at hz; omega
    have CO := Lib.hid (fun w => over_any b1 b2 m1 m2 (by omega) h0 (by omega) w)
    have hfit : modF n s k t = fitW b1 (m1 % m2) M := by
      unfold modF
      rw [ez, fitW_Z, tmod_sgn b1 b2, L.x, L.y]
      simp only [Bool.false_eq_true, if_false]
      rw [L.mM]; congr 1; omega
    have CF := Lib.hid (fun w => fit_any b1 (m1 % m2) M (by have := Nat.mod_lt m1 h0; omega) (by omega) w)
    rw [← hfit] at CF
    try simp only [Int.natCast_zero] at CF
    obtain ⟨b3, hb3⟩ : ∃ b, b = (b1 != b2) := ⟨_, rfl⟩
    obtain ⟨m3, hm3⟩ : ∃ m, m = m1 / m2 := ⟨_, rfl⟩
    obtain ⟨m4, hm4⟩ : ∃ m, m = m1 % m2 := ⟨_, rfl⟩
    rw [← hb3, ← hm3, ← hm4] at CO
    rw [← hm4] at CF
    obtain ⟨r, hr⟩ : ∃ r, r = modF n s k t := ⟨_, rfl⟩
    rw [← hr] at CF ⊢
    obtain ⟨r1, r2, r3⟩ := r
    clear hr hfit hb3 hm3 hm4 hbx hbz hm9 L h0
    go_enter Tryz.func28, Tryz.ntmps28
    go_wp2_with (first
      | (go_at_call 32; with_reducible refine (CL.out _).mono ?_; rintro e w1 ⟨rfl, hb⟩
         have E2 : Blk w1 (w.heap.size + 1 + 1) #[.int .i64 0, .int .i64 0] 23 := (Blk.here rfl (by simp)).below hb (by simp)
         have hw1 : Below w.heap.size w w1 := Below.trans (by go_grown) (hb.mono (by simp; omega))
         clear hb)
      | (go_at_call 34; with_reducible refine (CN.out _).mono ?_; rintro e w3 ⟨rfl, rfl⟩; rw [hz]; simp only [wb])
      | (go_at_call 49; with_reducible refine (CO.out _).mono ?_; rintro e w4 ⟨rfl, hb⟩
         have F2 := (((E2.alloc _).alloc _).alloc _).below hb (by have := E2.lt; simp; omega)
         have hw4 : Below w.heap.size w w4 := Below.trans (((hw1.alloc hw1.size _).alloc (by have := hw1.size; simp; omega) _).alloc (by have := hw1.size; simp; omega) _) (hb.mono (by have := hw1.size; simp; omega))
         clear hb E2 hw1)
      | (go_at_call 35; with_reducible refine (CF.out _).mono ?_; rintro e w5 ⟨rfl, hb⟩
         have G2 := ((F2.alloc _).alloc _).below hb (by have := F2.lt; simp; omega)
         have hw5 : Below w.heap.size w w5 := Below.trans ((hw4.alloc hw4.size _).alloc (by have := hw4.size; simp; omega) _) (hb.mono (by have := hw4.size; simp; omega))
         obtain ⟨c0, c1, f0, f1⟩ := G2.two
         clear hb F2 hw4))
    refine bodyPost_ret (v := .tuple #[.agg #[.int .i64 r1, .int .i64 r2], .int .i64 r3]) (by simp [results, Tryz.results28, go_sem, c0, c1]) rfl ⟨rfl, ?_⟩
    go_grown
    all_goals first | exact hw5 | exact hw5.size
  · rw [ez] at hz
    have hfit : modF n s k t = (0, 0, 52) := by
      unfold modF
      rw [ez]
      rfl
    rw [hfit]
    clear hfit hbx hbz hm9 L
    go_enter Tryz.func28, Tryz.ntmps28
    go_wp2_with (first
      | (go_at_call 32; with_reducible refine (CL.out _).mono ?_; rintro e w1 ⟨rfl, hb⟩
         have E2 : Blk w1 (w.heap.size + 1 + 1) #[.int .i64 0, .int .i64 0] 23 := (Blk.here rfl (by simp)).below hb (by simp)
         have hw1 : Below w.heap.size w w1 := Below.trans (by go_grown) (hb.mono (by simp; omega))
         clear hb)
      | (go_at_call 34; with_reducible refine (CN.out _).mono ?_; rintro e w3 ⟨rfl, h3⟩; rw [hz]
         have E3 : Blk w3 (w.heap.size + 1 + 1) #[.int .i64 0, .int .i64 0] 23 := by rw [h3]; exact ((E2.alloc _).alloc _).alloc _
         have hw3 : Below w.heap.size w w3 := by rw [h3]; exact ((hw1.alloc hw1.size _).alloc (by have := hw1.size; simp; omega) _).alloc (by have := hw1.size; simp; omega) _
         clear h3
         obtain ⟨c0, c1, f0, f1⟩ := E3.two))
    refine bodyPost_ret (v := .tuple #[.agg #[.int .i64 0, .int .i64 0], .int .i64 52]) (by simp [results, Tryz.results28, go_sem, c0, c1]) rfl ⟨rfl, ?_⟩
    go_grown
    all_goals first | exact hw3 | exact hw3.size
end Go.Proofs.YtgbghbeolndfiaaGreatDoor

/- Numbers of 128 bits: sums, differences, the tenth part. -/
import Derived.Test.YtfagfkfcokmclaaGreatDoorZWaC
set_option linter.unusedSimpArgs false
set_option linter.unusedVariables false
namespace Go.Proofs.YtfagfkfcokmclaaGreatDoor
open Go.RowKit

theorem minus_any (n1 n2 : Bool) (m x : Nat) (h : x ≤ m) (hm : m < 340282366920938463463374607431768211456) (w : World) :
    Calls Tryz.prog 181 #[.agg #[.bool n1, .int .u64 ((hiN m : Nat) : Int), .int .u64 ((loN m : Nat) : Int)], .agg #[.bool n2, .int .u64 ((hiN x : Nat) : Int), .int .u64 ((loN x : Nat) : Int)]] w fun e w' => e = .returned (.agg #[.bool n1, .int .u64 ((hiN (m - x) : Nat) : Int), .int .u64 ((loN (m - x) : Nat) : Int)]) ∧ w' = ((w.alloc (wb n1 (m - x))).alloc (wb n2 x)).alloc (wb n1 (m - x)) := by
  obtain ⟨p1, p2⟩ := minus_parts h hm
  have s1 : ∀ w, (callFunc 215 #[.int .u64 ((loN m : Nat) : Int), .int .u64 ((loN x : Nat) : Int), .int .u64 0]).run Tryz.prog w =
    .ok (.value (.tuple #[.int .u64 ((loN (m - x) : Nat) : Int), .int .u64 ((if loN m < loN x + 0 then 1 else 0 : Nat) : Int)])) w := fun w => by
    have := sub64 (loN m) (loN x) 0 (by omega) w
    rw [p1] at this
    exact this
  have s2 : ∀ w, (callFunc 215 #[.int .u64 ((hiN m : Nat) : Int), .int .u64 ((hiN x : Nat) : Int), .int .u64 ((if loN m < loN x + 0 then 1 else 0 : Nat) : Int)]).run Tryz.prog w =
    .ok (.value (.tuple #[.int .u64 ((hiN (m - x) : Nat) : Int), .int .u64 ((if hiN m < hiN x + (if loN m < loN x + 0 then 1 else 0) then 1 else 0 : Nat) : Int)])) w := fun w => by
    have := sub64 (hiN m) (hiN x) (if loN m < loN x + 0 then 1 else 0) (by split <;> omega) w
    rw [p2] at this
    exact this
  generalize (if loN m < loN x + 0 then 1 else 0 : Nat) = c at *
  generalize (if hiN m < hiN x + c then 1 else 0 : Nat) = c2 at *
  clear p1 p2
  go_enter Tryz.func181, Tryz.ntmps181
  go_wp2_with (first | simp only [s1] | simp only [s2])
  go_returns
  exact ⟨rfl, rfl⟩

set_option maxHeartbeats 1000000 in
theorem plus_any (n1 n2 : Bool) (m x : Nat) (h : m + x < 340282366920938463463374607431768211456) (w : World) :
    Calls Tryz.prog 133 #[.agg #[.bool n1, .int .u64 ((hiN m : Nat) : Int), .int .u64 ((loN m : Nat) : Int)], .agg #[.bool n2, .int .u64 ((hiN x : Nat) : Int), .int .u64 ((loN x : Nat) : Int)]] w fun e w' =>
      e = .returned (.agg #[.bool (plusF n1 m n2 x).1, .int .u64 ((hiN (plusF n1 m n2 x).2 : Nat) : Int), .int .u64 ((loN (plusF n1 m n2 x).2 : Nat) : Int)]) ∧ Below w.heap.size w w' := by
  unfold plusF
  cases en : (n1 == n2)
  · cases eb : decide (m < x)
    · simp only [Bool.false_eq_true, if_false]
      simp at eb
      have eb' : decide (m < x) = false := by simp; omega
      go_enter Tryz.func133, Tryz.ntmps133
      go_wp2_with (first
        | (go_at_call 180; refine (below_any _ _ _ _ _).mono ?_; rintro e w1 ⟨rfl, rfl⟩; rw [eb']; simp only [wb])
        | (go_at_call 181; refine (minus_any _ _ _ _ eb (by omega) _).mono ?_; rintro e w2 ⟨rfl, rfl⟩; simp only [wb]))
      go_returns
      exact ⟨rfl, by go_grown⟩
    · simp only [if_true, Bool.false_eq_true, if_false]
      have eb0 : m < x := by simpa using eb
      go_enter Tryz.func133, Tryz.ntmps133
      go_wp2_with (first
        | (go_at_call 180; refine (below_any _ _ _ _ _).mono ?_; rintro e w1 ⟨rfl, rfl⟩; rw [eb]; simp only [wb])
        | (go_at_call 181; refine (minus_any _ _ _ _ (Nat.le_of_lt eb0) (by omega) _).mono ?_; rintro e w2 ⟨rfl, rfl⟩; simp only [wb]))
      go_returns
      exact ⟨rfl, by go_grown⟩
  · simp only [if_true]
    obtain ⟨p1, p2⟩ := plus_parts h
    have s1 : ∀ w, (callFunc 179 #[.int .u64 ((loN m : Nat) : Int), .int .u64 ((loN x : Nat) : Int), .int .u64 0]).run Tryz.prog w =
      .ok (.value (.tuple #[.int .u64 ((loN (m + x) : Nat) : Int), .int .u64 (((loN m + loN x + 0) / 18446744073709551616 : Nat) : Int)])) w := fun w => by
      have := add64 (loN m) (loN x) 0 (by omega) w
      rw [p1] at this
      exact this
    have hcc : (loN m + loN x + 0) / 18446744073709551616 ≤ 1 := by
      have := lo_lt m
      have := lo_lt x
      omega
    have s2 : ∀ w, (callFunc 179 #[.int .u64 ((hiN m : Nat) : Int), .int .u64 ((hiN x : Nat) : Int), .int .u64 (((loN m + loN x + 0) / 18446744073709551616 : Nat) : Int)]).run Tryz.prog w =
      .ok (.value (.tuple #[.int .u64 ((hiN (m + x) : Nat) : Int), .int .u64 (((hiN m + hiN x + (loN m + loN x + 0) / 18446744073709551616) / 18446744073709551616 : Nat) : Int)])) w := fun w => by
      have := add64 (hiN m) (hiN x) _ hcc w
      rw [p2] at this
      exact this
    generalize (loN m + loN x + 0) / 18446744073709551616 = c at *
    generalize (hiN m + hiN x + c) / 18446744073709551616 = c2 at *
    clear p1 p2 hcc
    go_enter Tryz.func133, Tryz.ntmps133
    go_wp2_with (first | simp only [s1] | simp only [s2])
    go_returns
    exact ⟨rfl, by go_grown⟩

theorem small_any (n1 : Bool) (m : Nat) (h : m < 340282366920938463463374607431768211456) (w : World) :
    Calls Tryz.prog 182 #[.agg #[.bool n1, .int .u64 ((hiN m : Nat) : Int), .int .u64 ((loN m : Nat) : Int)], .int .u64 10] w fun e w' =>
      e = .returned (.tuple #[.agg #[.bool n1, .int .u64 ((hiN (m / 10) : Nat) : Int), .int .u64 ((loN (m / 10) : Nat) : Int)], .int .u64 ((m % 10 : Nat) : Int)]) ∧ Below w.heap.size w w' := by
  obtain ⟨p1, p2, p3⟩ := small_parts h
  have hl := lo_lt m
  have b0 : hiN m < 18446744073709551616 := hi_lt h
  obtain ⟨A, hA⟩ : ∃ A, A = hiN (m / 10) := ⟨_, rfl⟩
  obtain ⟨B, hB⟩ : ∃ B, B = hiN m % 10 := ⟨_, rfl⟩
  have d := fun w => div64_any B (loN m) (by omega) hl w
  rw [hB, p2, p3, ← hB] at d
  have bA : A < 18446744073709551616 := by omega
  have bB : B < 10 := by omega
  have f1 : ((hiN m : Nat) : Int).tdiv 10 = (A : Int) := by rw [Int.tdiv_eq_ediv_of_nonneg (by omega)]; omega
  have f2 : ((hiN m : Nat) : Int).tmod 10 = (B : Int) := by rw [Int.tmod_eq_emod_of_nonneg (by omega)]; omega
  have f3 : ((hiN m : Nat) : Int) / 10 = (A : Int) := by omega
  have f4 : ((hiN m : Nat) : Int) % 10 = (B : Int) := by omega
  rw [← hA]
  obtain ⟨C, hC⟩ : ∃ C, C = m % 10 := ⟨_, rfl⟩
  rw [← hC] at d ⊢
  clear p1 p2 p3 hA hB hC
  go_enter Tryz.func182, Tryz.ntmps182
  go_wp2_with (go_at_call 216; refine (d _).mono ?_; rintro e w1 ⟨rfl, k, rfl⟩)
  go_returns
  refine ⟨rfl, ?_⟩
  go_grown
  exact below_drewN (by go_grown) _
end Go.Proofs.YtfagfkfcokmclaaGreatDoor

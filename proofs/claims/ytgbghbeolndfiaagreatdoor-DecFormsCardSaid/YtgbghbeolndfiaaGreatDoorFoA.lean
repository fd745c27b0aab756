/- Numbers made; two numbers right. -/
import Derived.Test.YtgbghbeolndfiaaGreatDoorWaI
set_option linter.unusedSimpArgs false
set_option linter.unusedVariables false
set_option linter.constructorNameAsVariable false
namespace Go.Proofs.YtgbghbeolndfiaaGreatDoor
open Go.RowKit

theorem right_two (b : Nat) (n s k t : Int) (w : World) (u : TypeId) (h : Blk w b #[.int .i64 n, .int .i64 s, .int .i64 k, .int .i64 t] u) : Calls Tryz.prog 12 #[.slice (some ⟨b, 0, none⟩) 2 2] w fun e w' => e = .returned (.bool (rightF n s && rightF k t)) ∧ Below w.heap.size w w' := by
  have hN : NRow w (some ⟨b, 0, none⟩) [(n, s), (k, t)] := by
    refine .inr ⟨b, rfl, h.lt, fun j x y hx => ?_⟩
    match j, hx with
    | 0, hx => simp at hx; obtain ⟨rfl, rfl⟩ := hx; exact ⟨h.cell 0, h.cell 1⟩
    | 1, hx => simp at hx; obtain ⟨rfl, rfl⟩ := hx; exact ⟨h.cell 2, h.cell 3⟩
    | j + 2, hx => simp at hx
  have := right_any _ 2 [(n, s), (k, t)] w hN (by simp)
  simpa using this
set_option maxHeartbeats 2000000 in
theorem make_out (n s : Int) (h : s < 0 ∨ 9 < s) (w : World) : Calls Tryz.prog 13 #[.int .i64 n, .int .i64 s] w fun e w' => e = .returned (.tuple #[.agg #[.int .i64 0, .int .i64 0], .int .i64 2]) ∧ Below w.heap.size w w' := by
  cases e1 : decide (s < 0)
  · have e2 : decide (9 < s) = true := by simp at e1 ⊢; omega
    go_enter Tryz.func13, Tryz.ntmps13
    go_wp2_with fail
    refine bodyPost_ret (v := .tuple #[.agg #[.int .i64 0, .int .i64 0], .int .i64 2]) (by simp [results, Tryz.results13, go_sem]) rfl ⟨rfl, ?_⟩
    go_grown
  · go_enter Tryz.func13, Tryz.ntmps13
    go_wp2_with fail
    refine bodyPost_ret (v := .tuple #[.agg #[.int .i64 0, .int .i64 0], .int .i64 2]) (by simp [results, Tryz.results13, go_sem]) rfl ⟨rfl, ?_⟩
    go_grown
set_option maxHeartbeats 2000000 in
theorem make_in (n : Int) (s : Nat) (hs : s ≤ 9) (h0 : -9223372036854775808 ≤ n) (h1 : n ≤ 9223372036854775807) (w : World) : Calls Tryz.prog 13 #[.int .i64 n, .int .i64 (s : Int)] w fun e w' =>
    e = .returned (.tuple #[.agg #[.int .i64 (fitZ n s).1, .int .i64 (fitZ n s).2.1], .int .i64 (fitZ n s).2.2]) ∧ Below w.heap.size w w' := by
  have WA := Lib.hid (fun w => widen_any n 0 (by omega) h0 h1 w)
  have WF := Lib.hid (fun w => fit_any (decide (n < 0)) (n.natAbs * powN 0) s (by rw [powN_zero]; omega) (by omega) w)
  have hz : fitZ n s = fitW (decide (n < 0)) (n.natAbs * powN 0) s := by rw [powN_zero, Nat.mul_one]; rfl
  rw [← hz] at WF
  simp only [Int.natCast_zero] at WA
  obtain ⟨r1, r2, r3, hr⟩ : ∃ r1 r2 r3, fitZ n s = (r1, r2, r3) := ⟨_, _, _, rfl⟩
  rw [hr] at WF ⊢
  obtain ⟨m, hm⟩ : ∃ m, m = n.natAbs * powN 0 := ⟨_, rfl⟩
  obtain ⟨b1, hb1⟩ : ∃ b, b = decide (n < 0) := ⟨_, rfl⟩
  rw [← hm, ← hb1] at WA WF
  have e1 : decide ((s : Int) < 0) = false := by simp; try omega
  have e2 : decide ((9 : Int) < (s : Int)) = false := by simp; omega
  clear hz hr hm hb1
  go_enter Tryz.func13, Tryz.ntmps13
  go_wp2_with (first
    | (go_at_call 36; with_reducible refine (WA.out _).mono ?_; rintro e w1 ⟨rfl, hb⟩
       have E2 : Blk w1 w.heap.size #[.int .i64 0, .int .i64 0] 23 := (Blk.here rfl rfl).below hb (by simp)
       have hw1 : Below w.heap.size w w1 := ((Below.refl _ _).alloc (Nat.le_refl _) _).trans (hb.mono (by simp))
       clear hb)
    | (go_at_call 35; with_reducible refine (WF.out _).mono ?_; rintro e w2 ⟨rfl, hb⟩
       have F2 := E2.below hb E2.lt
       have hw2 := hw1.trans (hb.mono hw1.size)
       have k2 : w.heap.size < w2.heap.size := F2.lt
       obtain ⟨c0, c1, f0, f1⟩ := F2.two
       clear hb))
  refine bodyPost_ret (v := .tuple #[.agg #[.int .i64 r1, .int .i64 r2], .int .i64 r3]) (by simp [results, Tryz.results13, go_sem, c0, c1, f0, f1]) rfl ⟨rfl, ?_⟩
  go_grown
  all_goals first | exact hw2 | exact hw2.size
end Go.Proofs.YtgbghbeolndfiaaGreatDoor

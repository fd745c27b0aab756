/- Numbers of 128 bits: the order, whether it is 0, the product that makes one. -/
import Derived.Test.YtfagfkfcokmclaaGreatDoorZWaA
set_option linter.unusedSimpArgs false
set_option linter.unusedVariables false
namespace Go.Proofs.YtfagfkfcokmclaaGreatDoor
open Go.RowKit

theorem lays264 : Go.Proofs.Lays.n264 Tryz.prog ⟨fun | 264 => 137 | n => n, fun | 46 => 211 | 53 => 168 | n => n, fun | n => n⟩ := {
  mixed := by kernel_rfl
  f264 := Tryz.func137.trans (congrArg some (by kernel_rfl))
  t46 := Tryz.underlying211
  a46 := Tryz.isAgg211
  z46 := Tryz.sizeOf211
  v46 := Tryz.zeroValue211
  t53 := Tryz.underlying168
  a53 := Tryz.isAgg168
  z53 := Tryz.sizeOf168
  v53 := Tryz.zeroValue168 }
theorem mul64_any (x y : Nat) (hx : x < 18446744073709551616) (hy : y < 18446744073709551616) (w : World) :
    Calls Tryz.prog 137 #[.int .u64 x, .int .u64 y] w fun e w' => e = .returned (.tuple #[.int .u64 ((hiN (x * y) : Nat) : Int), .int .u64 ((loN (x * y) : Nat) : Int)]) ∧ w' = w := Any.bits_Mul64 lays264 x y hx hy w

theorem Blk.here {w : World} {o : Obj} {cs : Array Value} {t : TypeId} {b : Nat} (ho : o = .cells cs t) (hb : b = w.heap.size) : Blk (w.alloc o) b cs t := by
  subst ho hb
  exact Blk.new _ _ _
theorem Blk.two {w : World} {b : Nat} {x y : Value} {t : TypeId} (h : Blk w b #[x, y] t) :
    w.cell? ⟨b, 0, none⟩ = some x ∧ w.cell? ⟨b, 1, none⟩ = some y ∧ w.frozen? ⟨b, 0, none⟩ = false ∧ w.frozen? ⟨b, 1, none⟩ = false :=
  ⟨h.cell 0, h.cell 1, h.free 0, h.free 1⟩
/-- A box of such a number. -/
def wb (n : Bool) (m : Nat) : Obj := .cells #[.bool n, .int .u64 ((hiN m : Nat) : Int), .int .u64 ((loN m : Nat) : Int)] 170
theorem below_any (n1 n2 : Bool) (m x : Nat) (w : World) :
    Calls Tryz.prog 180 #[.agg #[.bool n1, .int .u64 ((hiN m : Nat) : Int), .int .u64 ((loN m : Nat) : Int)], .agg #[.bool n2, .int .u64 ((hiN x : Nat) : Int), .int .u64 ((loN x : Nat) : Int)]] w fun e w' => e = .returned (.bool (decide (m < x))) ∧ w' = (w.alloc (wb n1 m)).alloc (wb n2 x) := by
  rw [← below_iff]
  cases e1 : decide (hiN m < hiN x) <;> cases e2 : (hiN m == hiN x) <;> cases e3 : decide (loN m < loN x)
  all_goals
    have f1 : decide (((hiN m : Nat) : Int) < ((hiN x : Nat) : Int)) = decide (hiN m < hiN x) := by congr 1; apply propext; omega
    have f2 : (((hiN m : Nat) : Int) == ((hiN x : Nat) : Int)) = (hiN m == hiN x) := by
      cases h : (hiN m == hiN x) <;> simp at h ⊢ <;> omega
    have f3 : decide (((loN m : Nat) : Int) < ((loN x : Nat) : Int)) = decide (loN m < loN x) := by congr 1; apply propext; omega
    rw [e1] at f1
    rw [e2] at f2
    rw [e3] at f3
    go_enter Tryz.func180, Tryz.ntmps180
    go_wp2_with fail
  all_goals go_light
  all_goals (go_returns; first | exact ⟨rfl, rfl⟩ | (refine ⟨?_, rfl⟩; simp [e1, e2, e3]))

theorem nought_any (n1 : Bool) (m : Nat) (w : World) :
    Calls Tryz.prog 139 #[.agg #[.bool n1, .int .u64 ((hiN m : Nat) : Int), .int .u64 ((loN m : Nat) : Int)]] w fun e w' => e = .returned (.bool (m == 0)) ∧ w' = w.alloc (wb n1 m) := by
  rw [← nought_iff]
  cases e1 : (hiN m == 0) <;> cases e2 : (loN m == 0)
  all_goals
    have f1 : (((hiN m : Nat) : Int) == 0) = (hiN m == 0) := by
      cases h : (hiN m == 0) <;> simp at h ⊢ <;> omega
    have f2 : (((loN m : Nat) : Int) == 0) = (loN m == 0) := by
      cases h : (loN m == 0) <;> simp at h ⊢ <;> omega
    rw [e1] at f1
    rw [e2] at f2
    go_enter Tryz.func139, Tryz.ntmps139
    go_wp2_with fail
  all_goals go_light
  all_goals (go_returns; first | exact ⟨rfl, rfl⟩ | (refine ⟨?_, rfl⟩; simp [e1, e2]))

set_option maxHeartbeats 1000000 in
theorem widen_any (n : Int) (p : Nat) (hp : p ≤ 18) (h0 : -9223372036854775808 ≤ n) (h1 : n ≤ 9223372036854775807) (w : World) :
    Calls Tryz.prog 136 #[.int .i64 n, .int .i64 (p : Int)] w fun e w' => e = .returned (.agg #[.bool (decide (n < 0)), .int .u64 ((hiN (n.natAbs * powN p) : Nat) : Int), .int .u64 ((loN (n.natAbs * powN p) : Nat) : Int)]) ∧ Below w.heap.size w w' := by
  have hpp := powN_le hp
  rw [powN_18] at hpp
  cases e1 : decide (n < 0)
  · simp at e1
    have f1 : IntKind.u64.wrap n = ((n.natAbs : Nat) : Int) := by rw [IntKind.wrap_u64]; omega
    have f2 : decide (n < 0) = false := by simp; omega
    go_enter Tryz.func136, Tryz.ntmps136
    go_wp2_with (first
      | (go_at_call 184; refine (pow_any p hp _).mono ?_; rintro e w1 ⟨rfl, rfl⟩)
      | (go_at_call 137; refine (mul64_any n.natAbs (powN p) (by omega) (by omega) _).mono ?_; rintro e w1 ⟨rfl, rfl⟩))
    go_returns
    exact ⟨rfl, by go_grown⟩
  · simp at e1
    have f1 : IntKind.u64.wrap (-(IntKind.u64.wrap n)) = ((n.natAbs : Nat) : Int) := by rw [IntKind.wrap_u64, IntKind.wrap_u64]; omega
    have f2 : decide (n < 0) = true := by simp; omega
    go_enter Tryz.func136, Tryz.ntmps136
    go_wp2_with (first
      | (go_at_call 184; refine (pow_any p hp _).mono ?_; rintro e w1 ⟨rfl, rfl⟩)
      | (go_at_call 137; refine (mul64_any n.natAbs (powN p) (by omega) (by omega) _).mono ?_; rintro e w1 ⟨rfl, rfl⟩))
    go_returns
    exact ⟨rfl, by go_grown⟩
end Go.Proofs.YtfagfkfcokmclaaGreatDoor

/- Numbers of 128 bits: what each of the functions on them returns. -/
import Derived.Test.YtfagfkfcokmclaaGreatDoorZMgA
import Derived.Shelf.Small.Bits
import Derived.Shelf.Bits.Mul64
import Derived.Shelf.Spec.BitsCarry
import Derived.Deep.LoopGhost
set_option linter.unusedSimpArgs false
set_option linter.unusedVariables false
namespace Go.Proofs.YtfagfkfcokmclaaGreatDoor
open Go.RowKit

theorem lays7a : Lays7.n25 Tryz.prog ⟨fun | 25 => 179 | n => n, fun | 22 => 168 | n => n, fun | n => n⟩ := {
  mixed := by kernel_rfl
  f25 := Tryz.func179.trans (congrArg some (by kernel_rfl))
  t22 := Tryz.underlying168
  a22 := Tryz.isAgg168
  z22 := Tryz.sizeOf168
  v22 := Tryz.zeroValue168
  i22 := by kernel_rfl }
theorem lays7s : Lays7.n26 Tryz.prog ⟨fun | 26 => 215 | n => n, fun | 22 => 168 | n => n, fun | n => n⟩ := {
  mixed := by kernel_rfl
  f26 := Tryz.func215.trans (congrArg some (by kernel_rfl))
  t22 := Tryz.underlying168
  a22 := Tryz.isAgg168
  z22 := Tryz.sizeOf168
  v22 := Tryz.zeroValue168
  i22 := by kernel_rfl }
theorem add64 (x y c : Nat) (hc : c ≤ 1) (w : World) : (callFunc 179 #[.int .u64 x, .int .u64 y, .int .u64 c]).run Tryz.prog w =
    .ok (.value (.tuple #[.int .u64 (((x + y + c) % 18446744073709551616 : Nat) : Int), .int .u64 (((x + y + c) / 18446744073709551616 : Nat) : Int)])) w := Any7.bits_Add64 lays7a x y c hc w
theorem sub64 (x y b : Nat) (hb : b ≤ 1) (w : World) : (callFunc 215 #[.int .u64 x, .int .u64 y, .int .u64 b]).run Tryz.prog w =
    .ok (.value (.tuple #[.int .u64 (((x + 18446744073709551616 - y - b) % 18446744073709551616 : Nat) : Int), .int .u64 ((if x < y + b then 1 else 0 : Nat) : Int)])) w := Any7.bits_Sub64 lays7s x y b hb w

def powN (n : Nat) : Nat := 10 ^ n
theorem powN_zero : powN 0 = 1 := rfl
theorem powN_succ (n : Nat) : powN (n + 1) = powN n * 10 := Nat.pow_succ ..
theorem powN_le {a b : Nat} (h : a ≤ b) : powN a ≤ powN b := Nat.pow_le_pow_right (by omega) h
theorem powN_18 : powN 18 = 1000000000000000000 := by decide
theorem powN_pos (n : Nat) : 0 < powN n := Nat.pow_pos (by omega)

theorem pow_any (n : Nat) (hn : n ≤ 18) (w : World) : Calls Tryz.prog 184 #[.int .i64 (n : Int)] w fun e w' => e = .returned (.int .u64 ((powN n : Nat) : Int)) ∧ w' = w := by
  go_enter Tryz.func184, Tryz.ntmps184
  go_wp2_with fail
  go_loopg [3, 5] (n + 1) (fun m pp ii wr => ∃ j : Nat, j ≤ n ∧ m + j = n + 1 ∧ ii = .int .i64 (j : Int) ∧ pp = .int .u64 ((powN j : Nat) : Int) ∧ wr = w)
  case atStart => exact ⟨0, Nat.zero_le _, by omega, rfl, rfl, rfl⟩
  case round =>
    obtain ⟨j, hj, hmj, rfl, rfl, rfl⟩ := hrel
    by_cases hlt : j < n
    · have h1 := powN_le (show j + 1 ≤ 18 by omega)
      rw [powN_18, powN_succ] at h1
      have e1 : IntKind.u64.wrap (((powN j : Nat) : Int) * 10) = ((powN (j + 1) : Nat) : Int) := by rw [IntKind.wrap_u64, powN_succ]; omega
      have e2 : IntKind.i64.wrap ((j : Int) + 1) = ((j + 1 : Nat) : Int) := by rw [IntWalk.i64_in _ (by omega)]; rfl
      have e3 : decide ((j : Int) < (n : Int)) = true := by simp; omega
      go_wp2_with fail
      go_roundg (gk - 1)
      case measure => omega
      case rel => exact ⟨j + 1, by omega, by omega, by go_num, rfl, rfl⟩
    · have hjn : j = n := by omega
      subst hjn
      go_wp2_with fail
      go_ret
      exact ⟨rfl, rfl⟩
end Go.Proofs.YtfagfkfcokmclaaGreatDoor

/- atom.String at the two literals. -/
import Derived.Test.YtgdbbocfiejlfaaDoorDpX
import Derived.Test.YtgdbbocfiejlfaaDoorShf
set_option linter.unusedSimpArgs false
set_option linter.unusedVariables false
set_option linter.constructorNameAsVariable false
namespace Go.Proofs.YtgdbbocfiejlfaaDoor
open Go.RowKit

theorem dig_one : (⟨(Lib.decDigits 1).toArray⟩ : ByteArray) = ⟨#[49]⟩ := by decide +kernel
set_option maxRecDepth 100000 in
set_option maxHeartbeats 4000000 in
theorem string_one (w : World) : Calls Tryd.prog 21 #[.agg #[.int .i64 1, .int .i64 1, .int .i64 0, .string ⟨#[]⟩, .bool false]] w fun e w' => e = .returned (.string ⟨#[49]⟩) ∧ Below w.heap.size w w' := by
  have C1 : Hid (∀ w, Calls Tryd.prog 33 #[.int .i64 1] w fun e w' => e = .returned (.string ⟨#[49]⟩) ∧ w' = w) := Lib.hid (fun w => by have := Tryd.strconv_Itoa_small 1 (by decide) w; rw [dig_one] at this; exact this)
  go_enter Tryd.func21, Tryd.ntmps21
  go_wp2_with fail
  with_reducible refine (C1.out _).mono ?_
  rintro e w1 ⟨rfl, rfl⟩
  go_wp2_with fail
  go_returns
  exact ⟨rfl, (Below.refl _ _).alloc (Nat.le_refl _) _⟩
theorem bool_true : (⟨(Lib.formatBool true).toArray⟩ : ByteArray) = ⟨#[116, 114, 117, 101]⟩ := by decide +kernel
set_option maxRecDepth 100000 in
set_option maxHeartbeats 4000000 in
theorem string_true (w : World) : Calls Tryd.prog 21 #[.agg #[.int .i64 4, .int .i64 0, .int .i64 0, .string ⟨#[]⟩, .bool true]] w fun e w' => e = .returned (.string ⟨#[116, 114, 117, 101]⟩) ∧ Below w.heap.size w w' := by
  have C1 : Hid (∀ w, Calls Tryd.prog 35 #[.bool true] w fun e w' => e = .returned (.string ⟨#[116, 114, 117, 101]⟩) ∧ w' = w) := Lib.hid (fun w => by have := Tryd.strconv_FormatBool true w; rw [bool_true] at this; exact this)
  go_enter Tryd.func21, Tryd.ntmps21
  go_wp2_with fail
  with_reducible refine (C1.out _).mono ?_
  rintro e w1 ⟨rfl, rfl⟩
  go_wp2_with fail
  go_returns
  exact ⟨rfl, (Below.refl _ _).alloc (Nat.le_refl _) _⟩
end Go.Proofs.YtgdbbocfiejlfaaDoor

/- Xml: what it returns, for every number. -/
import Derived.Test.YtaoobajokhcimaaGreatDoorAtB
import Derived.BigQuiet
import Derived.Deep.QuietTactic
namespace Go.Proofs.YtaoobajokhcimaaGreatDoor
open Go.RowKit

set_option maxHeartbeats 1000000 in
theorem xml_any (p : Int) (w : World) : Calls Tryz.prog 67 #[.int .i64 p] w fun e w' => e = .returned (.bool (xmlF p)) ∧ w = w' := by
  have hr : p < 9 ∨ p = 9 ∨ p = 10 ∨ (11 ≤ p ∧ p < 13) ∨ p = 13 ∨ (14 ≤ p ∧ p < 32) ∨ (32 ≤ p ∧ p ≤ 55295) ∨ (55296 ≤ p ∧ p ≤ 57343) ∨ (57344 ≤ p ∧ p ≤ 65533) ∨ (65534 ≤ p ∧ p ≤ 65535) ∨ (65536 ≤ p ∧ p ≤ 1114111) ∨ 1114112 ≤ p := by omega
  rcases hr with h | rfl | rfl | ⟨h, h'⟩ | rfl | ⟨h, h'⟩ | ⟨h, h'⟩ | ⟨h, h'⟩ | ⟨h, h'⟩ | ⟨h, h'⟩ | ⟨h, h'⟩ | h
  all_goals try (have b1 : (p == 9) = false := by rw [beq_eq_false_iff_ne]; omega)
  all_goals try (have b2 : (p == 10) = false := by rw [beq_eq_false_iff_ne]; omega)
  all_goals try (have b3 : (p == 13) = false := by rw [beq_eq_false_iff_ne]; omega)
  all_goals go_enter Tryz.func67, Tryz.ntmps67
  all_goals go_wp2
  all_goals go_light
  all_goals go_ret
  all_goals refine ⟨?_, rfl⟩
  all_goals unfold xmlF
  all_goals first
    | rfl
    | (refine congrArg (fun b => Ending.returned (Value.bool b)) (Eq.symm ?_); simp; omega)
    | (refine congrArg (fun b => Ending.returned (Value.bool b)) ?_; rw [Bool.eq_iff_iff]; simp; omega)
    | (exfalso; simp_all; done)
    | (exfalso; simp_all; omega)
    | trace_state

end Go.Proofs.YtaoobajokhcimaaGreatDoor

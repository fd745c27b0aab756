/- The program's order of attributes: cmp.Or of two. -/
import Derived.Test.YtgdbbocfiejlfaaDoorDpE
set_option linter.unusedSimpArgs false
set_option linter.unusedVariables false
set_option linter.constructorNameAsVariable false
namespace Go.Proofs.YtgdbbocfiejlfaaDoor
open Go.RowKit

set_option maxRecDepth 100000 in
theorem or_two (c1 c2 : Int) (q : Nat) (w : World) (hB : Blk w q #[.int .i64 c1, .int .i64 c2] 3) : Calls Tryd.prog 27 #[.slice (some ⟨q, 0, none⟩) 2 2] w fun e w' => e = .returned (.int .i64 (if c1 != 0 then c1 else c2)) ∧ w = w' := by
  have k := hB.lt
  obtain ⟨⟨x0, x1⟩, -⟩ := hB.two2
  clear hB
  cases e1 : (c1 != 0)
  · cases e2 : (c2 != 0)
    · have e3 : c2 = 0 := by simpa using e2
      subst e3
      go_enter Tryd.func27, Tryd.ntmps27
      go_wp2
      refine wp_loop_rounds 3 ?_
      rw [rounds_succ]
      go_wp2
      rw [rounds_succ]
      go_wp2
      rw [rounds_succ]
      go_wp2
      go_ret
      exact ⟨rfl, rfl⟩
    · go_enter Tryd.func27, Tryd.ntmps27
      go_wp2
      refine wp_loop_rounds 3 ?_
      rw [rounds_succ]
      go_wp2
      rw [rounds_succ]
      go_wp2
      go_ret
      exact ⟨rfl, rfl⟩
  · go_enter Tryd.func27, Tryd.ntmps27
    go_wp2
    refine wp_loop_rounds 3 ?_
    rw [rounds_succ]
    go_wp2
    go_ret
    exact ⟨rfl, rfl⟩
end Go.Proofs.YtgdbbocfiejlfaaDoor

/- LibEnds' arguments. -/
import Derived.Test.YtfagfkfcokmclaaGreatDoorZLcM
import Derived.Test.YtfagfkfcokmclaaGreatDoorRows
import Derived.Lib.SmallJoins
import Derived.OpenShut
import Derived.ProofKit
set_option linter.unusedVariables false
set_option linter.constructorNameAsVariable false
set_option linter.unusedSimpArgs false
namespace Go.Proofs.YtfagfkfcokmclaaGreatDoor
open Go.ChangeShapes Go.WideShapes Go.ChangeAt Go.RowKit Go.Joins

set_option maxRecDepth 100000 in
theorem ends_args (H : Type) (enc : TypeId × Value → H) (W : World) (base : Nat) (v0 v1 : Value) (d0 d1 : DataW H) (p0 p1 : List MemPlace)
    (hv0 : Value.okWide Tryz.prog W .any base 9 v0) (hv1 : Value.okWide Tryz.prog W .any base 9 v1)
    (h0 : DataW.Trod enc Tryz.prog W 0 (fun _ => true) true 9 v0 d0 p0) (h1 : DataW.Trod enc Tryz.prog W 0 (fun _ => true) true 9 v1 d1 p1)
    (m : Int) (hL : LaidE m W) : Calls Tryz.prog 4 #[v0, v1] W fun e w' => e = .returned (.bool true) ∧ Below W.heap.size W w' := by
  obtain ⟨s, rfl⟩ := okWide_string Tryz.underlying9 hv0
  obtain ⟨t, rfl⟩ := okWide_string Tryz.underlying9 hv1
  exact ends_any s t m W hL
end Go.Proofs.YtfagfkfcokmclaaGreatDoor

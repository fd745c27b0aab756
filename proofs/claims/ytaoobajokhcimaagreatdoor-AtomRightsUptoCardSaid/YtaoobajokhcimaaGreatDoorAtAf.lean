/- AtomRights' arguments. -/
import Derived.Test.YtaoobajokhcimaaGreatDoorAtV
import Derived.Test.YtaoobajokhcimaaGreatDoorAtAe
set_option linter.unusedVariables false
set_option linter.constructorNameAsVariable false
set_option linter.unusedSimpArgs false
namespace Go.Proofs.YtaoobajokhcimaaGreatDoor
open Go.ChangeShapes Go.WideShapes Go.ChangeAt Go.RowKit Go.Joins

set_option maxRecDepth 100000 in
theorem rights_args (H : Type) (enc : TypeId × Value → H) (W : World) (base : Nat) (v0 : Value) (d0 : DataW H) (p0 : List MemPlace)
    (hv0 : Value.okWide Tryz.prog W .any base 24 v0) (h0 : DataW.Trod enc Tryz.prog W 0 (fun _ => true) true 24 v0 d0 p0) (hk : Rows.uptoSmall H [d0] = true)
    (m : Int) (hL : LaidU m W) : Calls Tryz.prog 5 #[v0] W fun e w' => e = .returned (.bool true) ∧ Below W.heap.size W w' := by
  obtain ⟨k, n, s, t, b, rfl, rfl, -⟩ := atom_in hv0 h0
  have := small1 hk
  exact rights_walk k n s t b (by omega) m W hL
end Go.Proofs.YtaoobajokhcimaaGreatDoor

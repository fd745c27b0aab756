/- The arguments of DecDoes. -/
import Derived.Test.YtgbghbeolndfiaaGreatDoorWaQ
import Derived.Test.YtgbghbeolndfiaaGreatDoorDoA
namespace Go.Proofs.YtgbghbeolndfiaaGreatDoor
open Go.ChangeShapes Go.WideShapes Go.ChangeAt Go.RowKit Go.Joins

set_option maxRecDepth 100000 in
theorem does_walk (H : Type) (enc : TypeId × Value → H) (W : World) (base : Nat) (v0 v1 : Value) (d0 d1 : DataW H) (p0 p1 : List MemPlace)
    (hv0 : Value.okWide Tryz.prog W .any base 23 v0) (hv1 : Value.okWide Tryz.prog W .any base 23 v1)
    (h0 : DataW.Trod enc Tryz.prog W 0 (fun _ => true) true 23 v0 d0 p0) (h1 : DataW.Trod enc Tryz.prog W 0 (fun _ => true) true 23 v1 d1 p1)
    (m : Int) (hL : Laid m W) : Calls Tryz.prog 6 #[v0, v1] W fun e w' => e = .returned (.bool true) ∧ Below W.heap.size W w' := by
  obtain ⟨n, s, rfl⟩ := num_in hv0 h0
  obtain ⟨k, t, rfl⟩ := num_in hv1 h1
  exact does_any n s k t m W hL
end Go.Proofs.YtgbghbeolndfiaaGreatDoor

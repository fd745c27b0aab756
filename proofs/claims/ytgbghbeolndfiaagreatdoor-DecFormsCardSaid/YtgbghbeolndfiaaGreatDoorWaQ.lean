/- The arguments that came in: numbers. -/
import Derived.Test.YtgbghbeolndfiaaGreatDoorWaO
import Derived.Lib.SmallJoins
import Derived.OpenShut
import Derived.ProofKit
namespace Go.Proofs.YtgbghbeolndfiaaGreatDoor
open Go.ChangeShapes Go.WideShapes Go.ChangeAt Go.RowKit Go.Joins

theorem int_in {H : Type} {enc : TypeId × Value → H} {W : World} {b0 fuel : Nat} {spare : Nat → Bool} {held : Bool} {v : Value} {x : DataW H × List MemPlace} (hf : DataW.trod enc Tryz.prog W b0 spare held fuel 3 [v] = some x) :
    ∃ i : Int, v = .int .i64 i := by
  obtain ⟨i, e, rfl, wf⟩ := DataW.trod_int Tryz.underlying3 hf
  simp at e
  exact ⟨i, e⟩
theorem cellsNum : Tryz.prog.cellsOf 23 = 2 := by kernel_rfl
set_option maxRecDepth 100000 in
theorem num_in {H : Type} {enc : TypeId × Value → H} {W : World} {base : Nat} {v : Value} {d : DataW H} {p : List MemPlace} (hv : Value.okWide Tryz.prog W .any base 23 v) (h : DataW.Trod enc Tryz.prog W 0 (fun _ => true) true 23 v d p) :
    ∃ n s : Int, v = .agg #[.int .i64 n, .int .i64 s] := by
  obtain ⟨c0, c1, y0, y1, m, rfl, rfl, rfl, h0, h1⟩ := open_agg2 Tryz.underlying23 (by kernel_rfl) cellsNum hv h
  obtain ⟨n, rfl⟩ := int_in h0
  obtain ⟨s, rfl⟩ := int_in h1
  exact ⟨n, s, rfl⟩
set_option maxRecDepth 100000 in
theorem orders_walk (H : Type) (enc : TypeId × Value → H) (W : World) (base : Nat) (v0 v1 v2 : Value) (d0 d1 d2 : DataW H) (p0 p1 p2 : List MemPlace)
    (hv0 : Value.okWide Tryz.prog W .any base 23 v0) (hv1 : Value.okWide Tryz.prog W .any base 23 v1) (hv2 : Value.okWide Tryz.prog W .any base 23 v2)
    (h0 : DataW.Trod enc Tryz.prog W 0 (fun _ => true) true 23 v0 d0 p0) (h1 : DataW.Trod enc Tryz.prog W 0 (fun _ => true) true 23 v1 d1 p1) (h2 : DataW.Trod enc Tryz.prog W 0 (fun _ => true) true 23 v2 d2 p2)
    (m : Int) (hL : Laid m W) : Calls Tryz.prog 3 #[v0, v1, v2] W fun e w' => e = .returned (.bool true) ∧ Below W.heap.size W w' := by
  obtain ⟨n, s, rfl⟩ := num_in hv0 h0
  obtain ⟨k, t, rfl⟩ := num_in hv1 h1
  obtain ⟨c, d, rfl⟩ := num_in hv2 h2
  exact orders_any n s k t c d m W hL
end Go.Proofs.YtgbghbeolndfiaaGreatDoor

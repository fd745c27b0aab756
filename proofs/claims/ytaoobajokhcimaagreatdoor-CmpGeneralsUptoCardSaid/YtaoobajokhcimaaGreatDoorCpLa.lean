/- The arguments of CmpGenerals. -/
import Derived.Test.YtaoobajokhcimaaGreatDoorCpL
set_option linter.unusedVariables false
set_option linter.constructorNameAsVariable false
set_option linter.unusedSimpArgs false
namespace Go.Proofs.YtaoobajokhcimaaGreatDoor
open Go.ChangeShapes Go.WideShapes Go.ChangeAt Go.RowKit Go.Joins

set_option maxRecDepth 100000 in
theorem op_in2 {H : Type} {enc : TypeId × Value → H} {W : World} {base : Nat} {v : Value} {d : DataW H} {p : List MemPlace} (hv : Value.okWide Tryz.prog W .any base 45 v) (h : DataW.Trod enc Tryz.prog W 0 (fun _ => true) true 45 v d p) :
    ∃ k : Int, v = .int .i64 k ∧ d = .lit (.int .i64 k) := by
  obtain ⟨k, rfl, rfl, -⟩ := open_int Tryz.underlying45 hv h
  exact ⟨k, rfl, rfl⟩
set_option maxRecDepth 100000 in
theorem generals_args (H : Type) (enc : TypeId × Value → H) (W : World) (base : Nat) (v0 v1 v2 : Value) (d0 d1 d2 : DataW H) (p0 p1 p2 : List MemPlace)
    (hv0 : Value.okWide Tryz.prog W .any base 45 v0) (hv1 : Value.okWide Tryz.prog W .any base 46 v1) (hv2 : Value.okWide Tryz.prog W .any base 46 v2)
    (h0 : DataW.Trod enc Tryz.prog W 0 (fun _ => true) true 45 v0 d0 p0) (h1 : DataW.Trod enc Tryz.prog W 0 (fun _ => true) true 46 v1 d1 p1) (h2 : DataW.Trod enc Tryz.prog W 0 (fun _ => true) true 46 v2 d2 p2) (hk : Rows.uptoSmall H [d0, d1, d2] = true)
    (m : Int) (hL : Laid m W) : Calls Tryz.prog 7 #[v0, v1, v2] W fun e w' => e = .returned (.bool true) ∧ Below W.heap.size W w' := by
  obtain ⟨op, rfl, -⟩ := op_in2 hv0 h0
  obtain ⟨a0, len, cap, rfl⟩ := okWide_slice Tryz.underlying46 hv1
  obtain ⟨fuel, hf⟩ := h1
  obtain ⟨a, c, xs, e, hA, hn, hl, hs⟩ := atoms_in hf
  obtain ⟨a0', len', cap', rfl⟩ := okWide_slice Tryz.underlying46 hv2
  obtain ⟨fuel', hf'⟩ := h2
  obtain ⟨b, d, ys, e', hB, hn', hl', hs'⟩ := atoms_in hf'
  simp only at hl hs hl' hs'
  have hb := of_decide_eq_true hk
  simp only [Rows.uptoBulkAll] at hb
  rw [e, e']
  exact generals_walk op a b c d xs ys m W hL hA hB hn hn' (by omega) (by omega) (fun x hx => by have := hs x hx; omega) (fun x hx => by have := hs' x hx; omega)
end Go.Proofs.YtaoobajokhcimaaGreatDoor

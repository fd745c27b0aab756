/- The arguments of CmpOrders. -/
import Derived.Test.YtaoobajokhcimaaGreatDoorCpO
import Derived.Test.YtaoobajokhcimaaGreatDoorAtV
set_option linter.unusedVariables false
set_option linter.constructorNameAsVariable false
set_option linter.unusedSimpArgs false
namespace Go.Proofs.YtaoobajokhcimaaGreatDoor
open Go.ChangeShapes Go.WideShapes Go.ChangeAt Go.RowKit Go.Joins

theorem atom_bulk3 {H : Type} {k n s : Int} {t : ByteArray} {b : Bool} : t.size ≤ Rows.uptoBulk (H := H) (.agg [.lit (.int .i64 k), .lit (.int .i64 n), .lit (.int .i64 s), .lit (.string t.data.toList), .lit (.bool b)]) := by
  simp only [Rows.uptoBulkAll, Rows.uptoBulk]
  simp
  omega
set_option maxRecDepth 100000 in
theorem orders3_args (H : Type) (enc : TypeId × Value → H) (W : World) (base : Nat) (v0 v1 v2 : Value) (d0 d1 d2 : DataW H) (p0 p1 p2 : List MemPlace)
    (hv0 : Value.okWide Tryz.prog W .any base 24 v0) (hv1 : Value.okWide Tryz.prog W .any base 24 v1) (hv2 : Value.okWide Tryz.prog W .any base 24 v2)
    (h0 : DataW.Trod enc Tryz.prog W 0 (fun _ => true) true 24 v0 d0 p0) (h1 : DataW.Trod enc Tryz.prog W 0 (fun _ => true) true 24 v1 d1 p1) (h2 : DataW.Trod enc Tryz.prog W 0 (fun _ => true) true 24 v2 d2 p2) (hk : Rows.uptoSmall H [d0, d1, d2] = true)
    (m : Int) (hL : Laid m W) : Calls Tryz.prog 9 #[v0, v1, v2] W fun e w' => e = .returned (.bool true) ∧ Below W.heap.size W w' := by
  obtain ⟨k0, n0, s0, t0, b0, rfl, rfl, -⟩ := atom_in hv0 h0
  obtain ⟨k, n, s, t, b, rfl, rfl, -⟩ := atom_in hv1 h1
  obtain ⟨k2, n2, s2, t2, b2, rfl, rfl, -⟩ := atom_in hv2 h2
  have hb := of_decide_eq_true hk
  simp only [Rows.uptoBulkAll] at hb
  have b0' := atom_bulk3 (H := H) (k := k0) (n := n0) (s := s0) (t := t0) (b := b0)
  have b1 := atom_bulk3 (H := H) (k := k) (n := n) (s := s) (t := t) (b := b)
  have b2' := atom_bulk3 (H := H) (k := k2) (n := n2) (s := s2) (t := t2) (b := b2)
  exact orders_walk4 ⟨k0, n0, s0, t0, b0⟩ ⟨k, n, s, t, b⟩ ⟨k2, n2, s2, t2, b2⟩ (by show t0.size ≤ _; omega) (by show t.size ≤ _; omega) (by show t2.size ≤ _; omega) m W hL
end Go.Proofs.YtaoobajokhcimaaGreatDoor

/- The arguments of CmpValues, CmpOrders. -/
import Derived.Test.YtaoobajokhcimaaGreatDoorCpV
import Derived.Test.YtaoobajokhcimaaGreatDoorAtV
set_option linter.unusedVariables false
set_option linter.constructorNameAsVariable false
set_option linter.unusedSimpArgs false
namespace Go.Proofs.YtaoobajokhcimaaGreatDoor
open Go.ChangeShapes Go.WideShapes Go.ChangeAt Go.RowKit Go.Joins

set_option maxRecDepth 100000 in
theorem op_in {H : Type} {enc : TypeId × Value → H} {W : World} {base : Nat} {v : Value} {d : DataW H} {p : List MemPlace} (hv : Value.okWide Tryz.prog W .any base 45 v) (h : DataW.Trod enc Tryz.prog W 0 (fun _ => true) true 45 v d p) :
    ∃ k : Int, v = .int .i64 k ∧ d = .lit (.int .i64 k) := by
  obtain ⟨k, rfl, rfl, -⟩ := open_int Tryz.underlying45 hv h
  exact ⟨k, rfl, rfl⟩
theorem atom_bulk {H : Type} {k n s : Int} {t : ByteArray} {b : Bool} : t.size ≤ Rows.uptoBulk (H := H) (.agg [.lit (.int .i64 k), .lit (.int .i64 n), .lit (.int .i64 s), .lit (.string t.data.toList), .lit (.bool b)]) := by
  simp only [Rows.uptoBulkAll, Rows.uptoBulk]
  simp
  omega
set_option maxRecDepth 100000 in
theorem values_args (H : Type) (enc : TypeId × Value → H) (W : World) (base : Nat) (v0 v1 v2 : Value) (d0 d1 d2 : DataW H) (p0 p1 p2 : List MemPlace)
    (hv0 : Value.okWide Tryz.prog W .any base 45 v0) (hv1 : Value.okWide Tryz.prog W .any base 24 v1) (hv2 : Value.okWide Tryz.prog W .any base 24 v2)
    (h0 : DataW.Trod enc Tryz.prog W 0 (fun _ => true) true 45 v0 d0 p0) (h1 : DataW.Trod enc Tryz.prog W 0 (fun _ => true) true 24 v1 d1 p1) (h2 : DataW.Trod enc Tryz.prog W 0 (fun _ => true) true 24 v2 d2 p2) (hk : Rows.uptoSmall H [d0, d1, d2] = true)
    (m : Int) (hL : Laid m W) : Calls Tryz.prog 11 #[v0, v1, v2] W fun e w' => e = .returned (.bool true) ∧ Below W.heap.size W w' := by
  obtain ⟨op, rfl, -⟩ := op_in hv0 h0
  obtain ⟨k, n, s, t, b, rfl, rfl, -⟩ := atom_in hv1 h1
  obtain ⟨k2, n2, s2, t2, b2, rfl, rfl, -⟩ := atom_in hv2 h2
  have hb := of_decide_eq_true hk
  simp only [Rows.uptoBulkAll] at hb
  have b1 := atom_bulk (H := H) (k := k) (n := n) (s := s) (t := t) (b := b)
  have b2' := atom_bulk (H := H) (k := k2) (n := n2) (s := s2) (t := t2) (b := b2)
  exact values_walk op ⟨k, n, s, t, b⟩ ⟨k2, n2, s2, t2, b2⟩ (by show t.size ≤ _; omega) (by show t2.size ≤ _; omega) m W hL
end Go.Proofs.YtaoobajokhcimaaGreatDoor

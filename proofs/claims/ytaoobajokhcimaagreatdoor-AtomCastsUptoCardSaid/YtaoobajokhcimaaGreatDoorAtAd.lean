/- AtomCasts' arguments. -/
import Derived.Test.YtaoobajokhcimaaGreatDoorAtV
import Derived.Test.YtaoobajokhcimaaGreatDoorAtAc
set_option linter.unusedVariables false
set_option linter.constructorNameAsVariable false
set_option linter.unusedSimpArgs false
namespace Go.Proofs.YtaoobajokhcimaaGreatDoor
open Go.ChangeShapes Go.WideShapes Go.ChangeAt Go.RowKit Go.Joins

set_option maxRecDepth 100000 in
theorem kind_in {H : Type} {enc : TypeId × Value → H} {W : World} {base : Nat} {v : Value} {d : DataW H} {p : List MemPlace} (hv : Value.okWide Tryz.prog W .any base 22 v) (h : DataW.Trod enc Tryz.prog W 0 (fun _ => true) true 22 v d p) :
    ∃ k : Int, v = .int .i64 k ∧ d = .lit (.int .i64 k) := by
  obtain ⟨k, rfl, rfl, -⟩ := open_int Tryz.underlying22 hv h
  exact ⟨k, rfl, rfl⟩
/-- The bound on the first argument's text, whatever the second is. -/
theorem small2 {H : Type} {k n s : Int} {t : ByteArray} {b : Bool} {d : DataW H} (hk : Rows.uptoSmall H [.agg [.lit (.int .i64 k), .lit (.int .i64 n), .lit (.int .i64 s), .lit (.string t.data.toList), .lit (.bool b)], d] = true) : t.size ≤ 1048576 := by
  have hb := of_decide_eq_true hk
  simp only [Rows.uptoBulkAll, Rows.uptoBulk] at hb
  simp at hb
  omega
set_option maxRecDepth 100000 in
theorem casts_args (H : Type) (enc : TypeId × Value → H) (W : World) (base : Nat) (v0 v1 : Value) (d0 d1 : DataW H) (p0 p1 : List MemPlace)
    (hv0 : Value.okWide Tryz.prog W .any base 24 v0) (hv1 : Value.okWide Tryz.prog W .any base 22 v1)
    (h0 : DataW.Trod enc Tryz.prog W 0 (fun _ => true) true 24 v0 d0 p0) (h1 : DataW.Trod enc Tryz.prog W 0 (fun _ => true) true 22 v1 d1 p1) (hk : Rows.uptoSmall H [d0, d1] = true)
    (m : Int) (hL : LaidU m W) : Calls Tryz.prog 6 #[v0, v1] W fun e w' => e = .returned (.bool true) ∧ Below W.heap.size W w' := by
  obtain ⟨k, n, s, t, b, rfl, rfl, -⟩ := atom_in hv0 h0
  obtain ⟨tk, rfl, -⟩ := kind_in hv1 h1
  have := small2 hk
  exact casts_walk k n s t b tk (by omega) m W hL
end Go.Proofs.YtaoobajokhcimaaGreatDoor

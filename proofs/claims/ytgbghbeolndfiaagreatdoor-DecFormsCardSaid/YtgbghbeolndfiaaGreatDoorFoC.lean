/- The arguments of DecForms: a number, a text. -/
import Derived.Test.YtgbghbeolndfiaaGreatDoorWaQ
import Derived.Test.YtgbghbeolndfiaaGreatDoorFoB
set_option linter.unusedSimpArgs false
set_option linter.unusedVariables false
namespace Go.Proofs.YtgbghbeolndfiaaGreatDoor
open Go.ChangeShapes Go.WideShapes Go.ChangeAt Go.RowKit Go.Joins

theorem int_in2 {H : Type} {enc : TypeId × Value → H} {W : World} {b0 fuel : Nat} {spare : Nat → Bool} {held : Bool} {v : Value} {x : DataW H × List MemPlace} (hf : DataW.trod enc Tryz.prog W b0 spare held fuel 3 [v] = some x) :
    ∃ i : Int, v = .int .i64 i ∧ -9223372036854775808 ≤ i ∧ i ≤ 9223372036854775807 := by
  obtain ⟨i, e, rfl, wf⟩ := DataW.trod_int Tryz.underlying3 hf
  simp at e
  exact ⟨i, e, (bounds_i64 wf).1, (bounds_i64 wf).2⟩
set_option maxRecDepth 100000 in
theorem num_in2 {H : Type} {enc : TypeId × Value → H} {W : World} {base : Nat} {v : Value} {d : DataW H} {p : List MemPlace} (hv : Value.okWide Tryz.prog W .any base 23 v) (h : DataW.Trod enc Tryz.prog W 0 (fun _ => true) true 23 v d p) :
    ∃ n s : Int, v = .agg #[.int .i64 n, .int .i64 s] ∧ -9223372036854775808 ≤ n ∧ n ≤ 9223372036854775807 := by
  obtain ⟨c0, c1, y0, y1, m, rfl, rfl, rfl, h0, h1⟩ := open_agg2 Tryz.underlying23 (by kernel_rfl) cellsNum hv h
  obtain ⟨n, rfl, hn⟩ := int_in2 h0
  obtain ⟨s, rfl⟩ := int_in h1
  exact ⟨n, s, rfl, hn.1, hn.2⟩
set_option maxRecDepth 100000 in
theorem forms_walk (H : Type) (enc : TypeId × Value → H) (W : World) (base : Nat) (v0 v1 : Value) (d0 d1 : DataW H) (p0 p1 : List MemPlace)
    (hv0 : Value.okWide Tryz.prog W .any base 23 v0) (hv1 : Value.okWide Tryz.prog W .any base 9 v1)
    (h0 : DataW.Trod enc Tryz.prog W 0 (fun _ => true) true 23 v0 d0 p0) (h1 : DataW.Trod enc Tryz.prog W 0 (fun _ => true) true 9 v1 d1 p1)
    (m : Int) (hL : Laid m W) : Calls Tryz.prog 4 #[v0, v1] W fun e w' => e = .returned (.bool true) ∧ Below W.heap.size W w' := by
  obtain ⟨n, s, rfl, n0, n1⟩ := num_in2 hv0 h0
  obtain ⟨S, rfl⟩ := okWide_string Tryz.underlying9 hv1
  obtain ⟨fuel, hf⟩ := h1
  obtain ⟨S', e1, -, ws⟩ := DataW.trod_string Tryz.underlying9 hf
  simp [Value.cells] at e1
  subst e1
  exact forms_any n s n0 n1 S (by unfold maxLen at ws; omega) m W hL
end Go.Proofs.YtgbghbeolndfiaaGreatDoor

/- An atomic value that came in, laid open; what the bound of bulk says of it (out of the layer of atomic values). -/
import Derived.Test.YtfagfkfcokmclaaGreatDoorZMgB
import Derived.Test.YtfagfkfcokmclaaGreatDoorRows
import Derived.Lib.SmallJoins
import Derived.OpenShut
import Derived.ProofKit
set_option linter.unusedVariables false
set_option linter.constructorNameAsVariable false
set_option linter.unusedSimpArgs false
namespace Go.Proofs.YtfagfkfcokmclaaGreatDoor
open Go.ChangeShapes Go.WideShapes Go.ChangeAt Go.RowKit Go.Joins

theorem array5 {α : Type} {cs : Array α} (h : cs.size = 5) : ∃ a b c d e, cs = #[a, b, c, d, e] := by
  obtain ⟨l⟩ := cs
  match l, h with
  | [a, b, c, d, e], _ => exact ⟨a, b, c, d, e, rfl⟩
theorem cellsAtom : Tryz.prog.cellsOf 24 = 5 := by kernel_rfl
theorem one22 : Tryz.prog.cellsOf 22 = 1 ∧ Tryz.prog.cellsOf 3 = 1 ∧ Tryz.prog.cellsOf 9 = 1 ∧ Tryz.prog.cellsOf 4 = 1 := ⟨by kernel_rfl, by kernel_rfl, by kernel_rfl, by kernel_rfl⟩
set_option maxRecDepth 100000 in
/-- The reading of five cells as an atomic value. -/
theorem atom_trod {H : Type} {enc : TypeId × Value → H} {W : World} {b0 fuel : Nat} {spare : Nat → Bool} {held : Bool} {c0 c1 c2 c3 c4 : Value} {x : DataW H × List MemPlace}
    (h : DataW.trod enc Tryz.prog W b0 spare held fuel 24 [c0, c1, c2, c3, c4] = some x) :
    ∃ (k n s : Int) (t : ByteArray) (b : Bool), c0 = .int .i64 k ∧ c1 = .int .i64 n ∧ c2 = .int .i64 s ∧ c3 = .string t ∧ c4 = .bool b ∧ x.1 = .agg [.lit (.int .i64 k), .lit (.int .i64 n), .lit (.int .i64 s), .lit (.string t.data.toList), .lit (.bool b)] ∧ t.size ≤ maxLen := by
  obtain ⟨xs, m, -, rfl, hl, hlen, hf⟩ := DataW.trod_struct Tryz.underlying24 h
  match xs, hlen with
  | [y0, y1, y2, y3, y4], _ =>
    obtain ⟨o1, o2, o3, o4⟩ := one22
    have h0 : DataW.trod enc Tryz.prog W b0 spare held m 22 [c0] = some y0 := by simpa [o1, o2, o3, o4] using hf 0 _ rfl
    have h1 : DataW.trod enc Tryz.prog W b0 spare held m 3 [c1] = some y1 := by simpa [o1, o2, o3, o4] using hf 1 _ rfl
    have h2 : DataW.trod enc Tryz.prog W b0 spare held m 3 [c2] = some y2 := by simpa [o1, o2, o3, o4] using hf 2 _ rfl
    have h3 : DataW.trod enc Tryz.prog W b0 spare held m 9 [c3] = some y3 := by simpa [o1, o2, o3, o4] using hf 3 _ rfl
    have h4 : DataW.trod enc Tryz.prog W b0 spare held m 4 [c4] = some y4 := by simpa [o1, o2, o3, o4] using hf 4 _ rfl
    obtain ⟨k, e0, rfl, -⟩ := DataW.trod_int Tryz.underlying22 h0
    obtain ⟨n, e1, rfl, -⟩ := DataW.trod_int Tryz.underlying3 h1
    obtain ⟨s, e2, rfl, -⟩ := DataW.trod_int Tryz.underlying3 h2
    obtain ⟨t, e3, rfl, wt⟩ := DataW.trod_string Tryz.underlying9 h3
    obtain ⟨b, e4, rfl⟩ := DataW.trod_bool Tryz.underlying4 h4
    simp only [List.cons.injEq, and_true] at e0 e1 e2 e3 e4
    exact ⟨k, n, s, t, b, e0, e1, e2, e3, e4, rfl, wt⟩
set_option maxRecDepth 100000 in
theorem atom_in {H : Type} {enc : TypeId × Value → H} {W : World} {base : Nat} {v : Value} {d : DataW H} {p : List MemPlace} (hv : Value.okWide Tryz.prog W .any base 24 v) (h : DataW.Trod enc Tryz.prog W 0 (fun _ => true) true 24 v d p) :
    ∃ (k n s : Int) (t : ByteArray) (b : Bool), v = .agg #[.int .i64 k, .int .i64 n, .int .i64 s, .string t, .bool b] ∧ d = .agg [.lit (.int .i64 k), .lit (.int .i64 n), .lit (.int .i64 s), .lit (.string t.data.toList), .lit (.bool b)] ∧ t.size ≤ maxLen := by
  obtain ⟨cs, rfl, hsz⟩ := okWide_struct Tryz.underlying24 hv
  obtain ⟨c0, c1, c2, c3, c4, rfl⟩ := array5 (hsz.trans cellsAtom)
  obtain ⟨fuel, hf⟩ := h
  obtain ⟨k, n, s, t, b, rfl, rfl, rfl, rfl, rfl, hd, ht⟩ := atom_trod (x := (d, p)) (by simpa [Value.cells] using hf)
  exact ⟨k, n, s, t, b, rfl, hd, ht⟩
/-- The bound on one atomic value's text. -/
theorem small1 {H : Type} {k n s : Int} {t : ByteArray} {b : Bool} (hk : Rows.uptoSmall H [.agg [.lit (.int .i64 k), .lit (.int .i64 n), .lit (.int .i64 s), .lit (.string t.data.toList), .lit (.bool b)]] = true) : t.size ≤ 1048576 := by
  have hb := of_decide_eq_true hk
  simp only [Rows.uptoBulkAll, Rows.uptoBulk] at hb
  simp at hb
  omega
end Go.Proofs.YtfagfkfcokmclaaGreatDoor

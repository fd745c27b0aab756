/- LibRounds' arguments; what the walks ask of the laid variables. -/
import Derived.Test.YtfagfkfcokmclaaGreatDoorZLcV
import Derived.Test.YtfagfkfcokmclaaGreatDoorZLcG
set_option linter.unusedVariables false
set_option linter.constructorNameAsVariable false
set_option linter.unusedSimpArgs false
namespace Go.Proofs.YtfagfkfcokmclaaGreatDoor
open Go.ChangeShapes Go.WideShapes Go.ChangeAt Go.RowKit Go.Joins

/-- What the walks ask of the laid variables. -/
structure LaidL (m : Int) (w : World) : Prop where
  cell : w.cell? ⟨2, 0, none⟩ = some (.int .i64 m)
  sp : Sp w
theorem LaidL.on {m : Int} {w w' : World} (h : LaidL m w) (hb : Below w.heap.size w w') : LaidL m w' := by
  refine ⟨?_, h.sp.on hb⟩
  have hg : 2 < w.heap.size := by
    rcases Nat.lt_or_ge 2 w.heap.size with h' | h'
    · exact h'
    · have := h.cell; simp [World.cell?, Array.getElem?_eq_none h'] at this
  rw [← h.cell]
  exact hb.cell (p := ⟨2, 0, none⟩) hg
set_option maxRecDepth 100000 in
theorem rounds_args (H : Type) (enc : TypeId × Value → H) (W : World) (base : Nat) (v0 : Value) (d0 : DataW H) (p0 : List MemPlace)
    (hv0 : Value.okWide Tryz.prog W .any base 24 v0) (h0 : DataW.Trod enc Tryz.prog W 0 (fun _ => true) true 24 v0 d0 p0) (hk : Rows.uptoSmall H [d0] = true)
    (m : Int) (hL : LaidL m W) : Calls Tryz.prog 3 #[v0] W fun e w' => e = .returned (.bool true) ∧ Below W.heap.size W w' := by
  obtain ⟨k, n, s, t, b, rfl, rfl, -⟩ := atom_in hv0 h0
  have := small1 hk
  exact rounds_any k n s t b (by omega) W hL.sp
end Go.Proofs.YtfagfkfcokmclaaGreatDoor

/- The arguments of DecRounds: a number, and a row of numbers. -/
import Derived.Test.YtgbghbeolndfiaaGreatDoorWaQ
import Derived.Test.YtgbghbeolndfiaaGreatDoorWaX
import Derived.Deep.Slices
set_option linter.unusedSimpArgs false
set_option linter.unusedVariables false
namespace Go.Proofs.YtgbghbeolndfiaaGreatDoor
open Go.ChangeShapes Go.WideShapes Go.ChangeAt Go.RowKit Go.Joins

theorem cellsInt : Tryz.prog.cellsOf 3 = 1 := by kernel_rfl
theorem list_of {α : Type} {Q : Nat → α → Prop} : ∀ n : Nat, (∀ i, i < n → ∃ p, Q i p) → ∃ xs : List α, xs.length = n ∧ ∀ j p, xs[j]? = some p → Q j p
  | 0, _ => ⟨[], rfl, fun j p h => by simp at h⟩
  | n + 1, h => by
    obtain ⟨xs, hl, hx⟩ := list_of n fun i hi => h i (by omega)
    obtain ⟨p, hp⟩ := h n (by omega)
    refine ⟨xs ++ [p], by simp [hl], fun j q hj => ?_⟩
    rcases Nat.lt_trichotomy j n with h' | h' | h'
    · rw [List.getElem?_append_left (by omega)] at hj
      exact hx j q hj
    · subst h'
      rw [List.getElem?_append_right (by omega), hl] at hj
      simp at hj
      subst hj
      exact hp
    · rw [List.getElem?_eq_none (by simp; omega)] at hj
      cases hj
theorem cell_addrN {w : World} {a : Addr} {v : Value} (h : w.cell? a = some v) : a.spot = none ∧ a.block < w.heap.size := by
  obtain ⟨e, n, h1, h2, h3⟩ := World.shape?_of_cell? h
  refine ⟨h3, ?_⟩
  rcases Nat.lt_or_ge a.block w.heap.size with h4 | h4
  · exact h4
  · simp [World.cell?, Array.getElem?_eq_none h4] at h
set_option maxRecDepth 100000 in
theorem num_at {H : Type} {enc : TypeId × Value → H} {W : World} {b0 fuel : Nat} {spare : Nat → Bool} {held : Bool} {cs : List Value} {x : DataW H × List MemPlace} (hf : DataW.trod enc Tryz.prog W b0 spare held fuel 23 cs = some x) :
    ∃ n s : Int, cs = [.int .i64 n, .int .i64 s] := by
  obtain ⟨y0, y1, k, -, hl, h0, h1⟩ := trod_struct2 Tryz.underlying23 hf
  rw [cellsNum] at hl
  match cs, hl with
  | [c0, c1], _ =>
    obtain ⟨n, hn⟩ := int_in (v := c0) (by simpa [cellsInt] using h0)
    obtain ⟨s, hs⟩ := int_in (v := c1) (by simpa [cellsInt] using h1)
    exact ⟨n, s, by rw [hn, hs]⟩
theorem nums_in {H : Type} {enc : TypeId × Value → H} {W : World} {b0 fuel : Nat} {spare : Nat → Bool} {held : Bool} {v : Value} {x : DataW H × List MemPlace} (hf : DataW.trod enc Tryz.prog W b0 spare held fuel 45 [v] = some x) :
    ∃ a c xs, v = .slice a xs.length c ∧ ARow W a c xs ∧ xs.length ≤ 9223372036854775807 := by
  rcases Go.Deep.open_slice Tryz.underlying45 hf with ⟨hcs, -⟩ | ⟨a, len, cap, m, k, D, Pl, hcs, hb, hl, hm, hmm, -, hx⟩
  · obtain rfl : v = .slice none 0 0 := by simpa using hcs
    exact ⟨none, 0, [], rfl, .inl ⟨rfl, fun _ => rfl⟩, by simp⟩
  · obtain rfl : v = .slice (some a) len cap := by simpa using hcs
    have hml : len ≤ m := by rw [hmm]; split <;> omega
    obtain ⟨xs, hxl, hq⟩ := list_of (Q := fun i (p : Int × Int) => W.cell? (a.add (i * 2)) = some (.int .i64 p.1) ∧ W.cell? ((a.add (i * 2)).add 1) = some (.int .i64 p.2)) len fun i hi => by
      obtain ⟨cs', h1, h2⟩ := hx i (by omega)
      obtain ⟨n, s, rfl⟩ := num_at h2
      rw [cellsNum] at h1
      obtain ⟨-, -, h3⟩ := World.cells?_some h1
      exact ⟨(n, s), by simpa [Addr.add] using h3 0 (by omega), by simpa using h3 1 (by omega)⟩
    subst hxl
    refine ⟨some a, cap, xs, rfl, ?_, by unfold maxLen at hm; omega⟩
    cases xs with
    | nil => exact .inl ⟨rfl, fun h => by cases h⟩
    | cons p r =>
      obtain ⟨b, o, s⟩ := a
      have h0 := (hq 0 p rfl).1
      have e0 : (Addr.add ⟨b, o, s⟩ (0 * 2)) = ⟨b, o, s⟩ := by simp [Addr.add]
      rw [e0] at h0
      obtain ⟨h1, h2⟩ := cell_addrN h0
      simp only at h1 h2
      subst h1
      refine .inr ⟨b, o, rfl, h2, fun j n s hj => ?_⟩
      obtain ⟨y0, y1⟩ := hq j (n, s) hj
      by_cases hj0 : j = 0
      · subst hj0
        exact ⟨by simpa [Addr.add] using y0, by simpa [Addr.add] using y1⟩
      · have e : (j * 2 = 0) = False := by simp; omega
        exact ⟨by simpa [Addr.add, e, hj0] using y0, by simpa [Addr.add, e, hj0, Nat.add_assoc] using y1⟩
set_option maxRecDepth 100000 in
theorem rounds_walk (H : Type) (enc : TypeId × Value → H) (W : World) (base : Nat) (v0 v1 : Value) (d0 d1 : DataW H) (p0 p1 : List MemPlace)
    (hv0 : Value.okWide Tryz.prog W .any base 23 v0) (hv1 : Value.okWide Tryz.prog W .any base 45 v1)
    (h0 : DataW.Trod enc Tryz.prog W 0 (fun _ => true) true 23 v0 d0 p0) (h1 : DataW.Trod enc Tryz.prog W 0 (fun _ => true) true 45 v1 d1 p1)
    (m : Int) (hL : Laid m W) : Calls Tryz.prog 5 #[v0, v1] W fun e w' => e = .returned (.bool true) ∧ Below W.heap.size W w' := by
  obtain ⟨n, s, rfl⟩ := num_in hv0 h0
  obtain ⟨a0, len, cap, rfl⟩ := okWide_slice Tryz.underlying45 hv1
  obtain ⟨fuel, hf⟩ := h1
  obtain ⟨a, c, xs, e, hA, hl⟩ := nums_in hf
  rw [e]
  exact rounds_any n s a c xs m W hL hA hl
end Go.Proofs.YtgbghbeolndfiaaGreatDoor

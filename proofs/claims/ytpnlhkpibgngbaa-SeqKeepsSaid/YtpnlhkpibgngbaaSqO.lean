/- Rows of ints and whole numbers that came in, laid open. -/
import Derived.Test.YtpnlhkpibgngbaaBox
import Derived.Lib.SmallJoins
import Derived.ChangeSlices
import Derived.Laws.LoneSync
import Derived.ProofKit
import Derived.OpenShut
namespace Go.Proofs.Ytpnlhkpibgngbaa
open Go.ChangeShapes Go.WideShapes Go.ChangeAt Go.RowKit Go.Joins

theorem cells3 : Try.prog.cellsOf 3 = 1 := by kernel_rfl
theorem cell_addr {w : World} {a : Addr} {v : Value} (h : w.cell? a = some v) : a.spot = none ∧ a.block < w.heap.size := by
  obtain ⟨e, n, h1, h2, h3⟩ := World.shape?_of_cell? h
  refine ⟨h3, ?_⟩
  rcases Nat.lt_or_ge a.block w.heap.size with h4 | h4
  · exact h4
  · simp [World.cell?, Array.getElem?_eq_none h4] at h
/-- A slice of ints that came in. -/
theorem ints_in {H : Type} {enc : TypeId × Value → H} {W : World} {b0 fuel : Nat} {spare : Nat → Bool} {held : Bool} {v : Value} {x : DataW H × List MemPlace} (hf : DataW.trod enc Try.prog W b0 spare held fuel 33 [v] = some x) :
    ∃ (al : Option Addr) (n cl : Nat) (xs : List Int), v = .slice al n cl ∧ (n ≤ 1000000 → IRow W al n xs) ∧ (al = none → cl = 0) ∧ n ≤ cl ∧ cl ≤ 9223372036854775807 := by
  rcases open_ints Try.underlying33 Try.underlying3 cells3 hf with ⟨hcs, _⟩ | ⟨a, len, cap, zs, hcs, _, hl, hm, hz, _, hcell, _⟩
  · obtain rfl : v = .slice none 0 0 := by simpa using hcs
    exact ⟨none, 0, 0, [], rfl, fun _ => IRow.nil _ _, fun _ => rfl, Nat.le_refl _, by omega⟩
  · obtain rfl : v = .slice (some a) len cap := by simpa using hcs
    have hzl : len ≤ zs.length := by rw [hz]; split <;> omega
    refine ⟨some a, len, cap, zs.take len, rfl, fun hn => ⟨by simp; omega, by omega, fun h0 => ?_⟩, (fun h => by cases h), hl, by unfold maxLen at hm; omega⟩
    have hc0 := hcell 0 (by omega)
    have e0 : a.add 0 = a := by simp [Addr.add]
    rw [e0] at hc0
    obtain ⟨h1, h2⟩ := cell_addr hc0
    obtain ⟨b, o, s⟩ := a
    simp only at h1 h2
    subst h1
    refine ⟨b, o, rfl, h2, fun j y hy => ?_⟩
    have hj : j < len := by
      rcases Nat.lt_or_ge j len with h | h
      · exact h
      · rw [List.getElem?_eq_none (by simp; omega)] at hy; cases hy
    rw [List.getElem?_take_of_lt hj] at hy
    have := hcell j (by omega)
    rw [List.getD, hy] at this
    by_cases hj0 : j = 0 <;> simp_all [Addr.add]
/-- A whole number that came in. -/
theorem int_in {H : Type} {enc : TypeId × Value → H} {W : World} {b0 fuel : Nat} {spare : Nat → Bool} {held : Bool} {v : Value} {x : DataW H × List MemPlace} (hf : DataW.trod enc Try.prog W b0 spare held fuel 3 [v] = some x) :
    ∃ i : Int, v = .int .i64 i ∧ -9223372036854775808 ≤ i ∧ i ≤ 9223372036854775807 := by
  obtain ⟨i, e, rfl, wf⟩ := DataW.trod_int Try.underlying3 hf
  simp at e
  exact ⟨i, e, (bounds_i64 wf).1, (bounds_i64 wf).2⟩
end Go.Proofs.Ytpnlhkpibgngbaa

/- A row of values that came in, and what the bound of bulk says of it. -/
import Derived.Test.YtaoobajokhcimaaGreatDoorAtV
import Derived.Test.YtaoobajokhcimaaGreatDoorAtAb
import Derived.Deep.Slices
set_option linter.unusedVariables false
set_option linter.constructorNameAsVariable false
set_option linter.unusedSimpArgs false
namespace Go.Proofs.YtaoobajokhcimaaGreatDoor
open Go.ChangeShapes Go.WideShapes Go.ChangeAt Go.RowKit Go.Joins

theorem bulk_mem {H : Type} {d : DataW H} : ∀ {l : List (DataW H)}, d ∈ l → Rows.uptoBulk d ≤ Rows.uptoBulkAll l
  | [], h => by cases h
  | e :: r, h => by
    simp only [Rows.uptoBulkAll]
    rcases List.mem_cons.1 h with rfl | h
    · omega
    · have := bulk_mem h
      omega
theorem list_of {α : Type} {Q : Nat → α → Prop} : ∀ n : Nat, (∀ i, i < n → ∃ p, Q i p) → ∃ xs : List α, xs.length = n ∧ ∀ j p, xs[j]? = some p → Q j p
  | 0, _ => ⟨[], rfl, fun j p h => by simp at h⟩
  | n + 1, h => by
    obtain ⟨xs, hl, hx⟩ := list_of n fun i hi => h i (by omega)
    obtain ⟨p, hp⟩ := h n (by omega)
    refine ⟨xs ++ [p], by simp [hl], fun j q hj => ?_⟩
    rcases Nat.lt_trichotomy j n with h' | h' | h'
    · rw [List.getElem?_append_left (by omega)] at hj
      exact hx j q hj
    · subst h'
      rw [List.getElem?_append_right (by omega), hl] at hj
      simp at hj
      subst hj
      exact hp
    · rw [List.getElem?_eq_none (by simp; omega)] at hj
      cases hj
theorem cell_addrN {w : World} {a : Addr} {v : Value} (h : w.cell? a = some v) : a.spot = none ∧ a.block < w.heap.size := by
  obtain ⟨e, n, h1, h2, h3⟩ := World.shape?_of_cell? h
  refine ⟨h3, ?_⟩
  rcases Nat.lt_or_ge a.block w.heap.size with h4 | h4
  · exact h4
  · simp [World.cell?, Array.getElem?_eq_none h4] at h
theorem bulk_len {H : Type} (D : Nat → DataW H) (hD : ∀ i, 1 ≤ Rows.uptoBulk (D i)) : ∀ n k, n ≤ Rows.uptoBulkAll ((List.range' k n).map D)
  | 0, _ => Nat.zero_le _
  | n + 1, k => by
    have := bulk_len D hD n (k + 1)
    have h1 := hD k
    simp only [List.range'_succ, List.map_cons, Rows.uptoBulkAll]
    omega
theorem bulk_pos {H : Type} (d : DataW H) : 1 ≤ Rows.uptoBulk d := by
  cases d with
  | lit l => cases l <;> simp [Rows.uptoBulk]
  | _ => simp [Rows.uptoBulk]
set_option maxRecDepth 100000 in
theorem atoms_in {H : Type} {enc : TypeId × Value → H} {W : World} {b0 fuel : Nat} {spare : Nat → Bool} {held : Bool} {v : Value} {x : DataW H × List MemPlace} (hf : DataW.trod enc Tryz.prog W b0 spare held fuel 46 [v] = some x) :
    ∃ a c xs, v = .slice a xs.length c ∧ TRow W a xs ∧ (a = none → c = 0) ∧ xs.length ≤ Rows.uptoBulk x.1 ∧ ∀ y ∈ xs, y.t.size ≤ Rows.uptoBulk x.1 := by
  rcases Go.Deep.open_slice Tryz.underlying46 hf with ⟨hcs, hx⟩ | ⟨a, len, cap, m, k, D, Pl, hcs, hb, hl, hm, hmm, hxx, hx⟩
  · obtain rfl : v = .slice none 0 0 := by simpa using hcs
    exact ⟨none, 0, [], rfl, .inl rfl, (fun _ => rfl), by simp, (fun y hy => by cases hy)⟩
  · obtain rfl : v = .slice (some a) len cap := by simpa using hcs
    have hml : len ≤ m := by rw [hmm]; split <;> omega
    have hD : Rows.uptoBulk x.1 = Rows.uptoBulkAll ((List.range len).map D) + Rows.uptoBulkAll ((List.range (m - len)).map fun j => D (len + j)) + 1 := by
      rw [hxx]
      simp only [Rows.uptoBulk]
    have hlen := bulk_len D (fun i => bulk_pos (D i)) len 0
    rw [← List.range_eq_range'] at hlen
    obtain ⟨xs, hxl, hq⟩ := list_of (Q := fun i (p : At) => (W.cell? (a.add (i * 5)) = some (.int .i64 p.k) ∧ W.cell? ((a.add (i * 5)).add 1) = some (.int .i64 p.n) ∧ W.cell? ((a.add (i * 5)).add 2) = some (.int .i64 p.s) ∧ W.cell? ((a.add (i * 5)).add 3) = some (.string p.t) ∧ W.cell? ((a.add (i * 5)).add 4) = some (.bool p.b)) ∧ p.t.size ≤ Rows.uptoBulk x.1) len fun i hi => by
      obtain ⟨cs', h1, h2⟩ := hx i (by omega)
      rw [cellsAtom] at h1
      obtain ⟨-, hlen5, h3⟩ := World.cells?_some h1
      match cs', hlen5 with
      | [c0, c1, c2, c3, c4], _ =>
        obtain ⟨k', n, s, t, b, rfl, rfl, rfl, rfl, rfl, hd, -⟩ := atom_trod (x := (D i, Pl i)) h2
        refine ⟨⟨k', n, s, t, b⟩, ⟨by simpa [Addr.add] using h3 0 (by omega), by simpa using h3 1 (by omega), by simpa using h3 2 (by omega), by simpa using h3 3 (by omega), by simpa using h3 4 (by omega)⟩, ?_⟩
        have hmem : D i ∈ (List.range len).map D := List.mem_map.2 ⟨i, List.mem_range.2 hi, rfl⟩
        have hbm := bulk_mem hmem
        rw [show D i = .agg [.lit (.int .i64 k'), .lit (.int .i64 n), .lit (.int .i64 s), .lit (.string t.data.toList), .lit (.bool b)] from hd] at hbm
        simp only [Rows.uptoBulk, Rows.uptoBulkAll] at hbm
        simp at hbm
        show t.size ≤ _
        omega
    subst hxl
    refine ⟨some a, cap, xs, rfl, ?_, (fun h => by cases h), by omega, fun y hy => ?_⟩
    · cases xs with
      | nil => exact .inl rfl
      | cons p r =>
        obtain ⟨b, o, s⟩ := a
        have h0 := (hq 0 p rfl).1.1
        have e0 : (Addr.add ⟨b, o, s⟩ (0 * 5)) = ⟨b, o, s⟩ := by simp [Addr.add]
        rw [e0] at h0
        obtain ⟨h1, h2⟩ := cell_addrN h0
        simp only at h1 h2
        subst h1
        refine .inr ⟨b, o, rfl, h2, fun j z hj => ?_⟩
        obtain ⟨⟨y0, y1, y2, y3, y4⟩, -⟩ := hq j z hj
        by_cases hj0 : j = 0
        · subst hj0
          exact ⟨by simpa [Addr.add] using y0, by simpa [Addr.add] using y1, by simpa [Addr.add] using y2, by simpa [Addr.add] using y3, by simpa [Addr.add] using y4⟩
        · have e : (j * 5 = 0) = False := by simp; omega
          exact ⟨by simpa [Addr.add, e, hj0] using y0, by simpa [Addr.add, e, hj0, Nat.add_assoc] using y1, by simpa [Addr.add, e, hj0, Nat.add_assoc] using y2, by simpa [Addr.add, e, hj0, Nat.add_assoc] using y3, by simpa [Addr.add, e, hj0, Nat.add_assoc] using y4⟩
    · obtain ⟨j, hj, rfl⟩ := List.mem_iff_getElem.1 hy
      exact (hq j xs[j] (List.getElem?_eq_getElem hj)).2
end Go.Proofs.YtaoobajokhcimaaGreatDoor

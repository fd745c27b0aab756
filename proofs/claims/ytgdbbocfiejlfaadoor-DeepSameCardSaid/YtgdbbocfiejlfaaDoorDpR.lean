/- Trees that came in. -/
import Derived.Test.YtgdbbocfiejlfaaDoorDpB
import Derived.Deep.Slices
import Derived.ChangeArms
import Derived.ProofKit
set_option linter.unusedVariables false
set_option linter.constructorNameAsVariable false
set_option linter.unusedSimpArgs false
namespace Go.Proofs.YtgdbbocfiejlfaaDoor
open Go.ChangeShapes Go.WideShapes Go.ChangeAt Go.RowKit

theorem open_rowF {H : Type} {enc : TypeId × Value → H} {P : Program} {w : World} {base : Nat} {spare : Nat → Bool} {held : Bool} {fuel : Nat} {t e : TypeId} {v : Value} {x : DataW H × List MemPlace} (ht : P.underlying t = some (.slice e)) (h : DataW.trod enc P w base spare held fuel t [v] = some x) :
    v = .slice none 0 0 ∨ ∃ (a : Addr) (len cap n : Nat), fuel = n + 1 ∧ v = .slice (some a) len cap ∧ len ≤ cap ∧ cap ≤ maxLen ∧ ∀ i, i < len → ∃ cs' x', w.cells? base (a.add (i * P.cellsOf e)) (P.cellsOf e) = some cs' ∧ DataW.trod enc P w base spare held n e cs' = some x' := by
  rcases DataW.trod_slice ht h with ⟨h0, -⟩ | ⟨a, len, cap, elems, rest, n, hf, hv, -, -, hl, hm, hlen, hel, -, -⟩
  · exact .inl (by simpa using h0)
  · refine .inr ⟨a, len, cap, n, hf, by simpa using hv, hl, hm, fun i hi => ?_⟩
    have := hel i hi
    have hs : elems[i]? = some elems[i] := List.getElem?_eq_getElem (by omega)
    rw [hs] at this
    obtain ⟨cs', h1, h2⟩ := Option.bind_eq_some_iff.1 this
    exact ⟨cs', _, h1, h2⟩
theorem list_ofD {α : Type} {Q : Nat → α → Prop} : ∀ n : Nat, (∀ i, i < n → ∃ p, Q i p) → ∃ xs : List α, xs.length = n ∧ ∀ j p, xs[j]? = some p → Q j p
  | 0, _ => ⟨[], rfl, fun j p h => by simp at h⟩
  | n + 1, h => by
    obtain ⟨xs, hl, hx⟩ := list_ofD n fun i hi => h i (by omega)
    obtain ⟨p, hp⟩ := h n (by omega)
    refine ⟨xs ++ [p], by simp [hl], fun j q hj => ?_⟩
    rcases Nat.lt_trichotomy j n with h' | h' | h'
    · rw [List.getElem?_append_left (by omega)] at hj
      exact hx j q hj
    · subst h'
      rw [List.getElem?_append_right (by omega), hl] at hj
      simp at hj
      subst hj
      exact hp
    · rw [List.getElem?_eq_none (by simp; omega)] at hj
      cases hj
theorem cell_addrD {w : World} {a : Addr} {v : Value} (h : w.cell? a = some v) : a.spot = none ∧ a.block < w.heap.size := by
  obtain ⟨e, n, h1, h2, h3⟩ := World.shape?_of_cell? h
  refine ⟨h3, ?_⟩
  rcases Nat.lt_or_ge a.block w.heap.size with h4 | h4
  · exact h4
  · simp [World.cell?, Array.getElem?_eq_none h4] at h
theorem cellsPair : Tryd.prog.cellsOf 33 = 2 := by kernel_rfl
theorem cellsTree : Tryd.prog.cellsOf 26 = 5 := by kernel_rfl
theorem onesT : Tryd.prog.cellsOf 22 = 1 ∧ Tryd.prog.cellsOf 9 = 1 ∧ Tryd.prog.cellsOf 23 = 1 ∧ Tryd.prog.cellsOf 24 = 1 := ⟨by kernel_rfl, by kernel_rfl, by kernel_rfl, by kernel_rfl⟩
set_option maxRecDepth 100000 in
theorem pair_trod {H : Type} {enc : TypeId × Value → H} {W : World} {b0 fuel : Nat} {spare : Nat → Bool} {held : Bool} {c0 c1 : Value} {x : DataW H × List MemPlace}
    (h : DataW.trod enc Tryd.prog W b0 spare held fuel 33 [c0, c1] = some x) : ∃ s t : ByteArray, c0 = .string s ∧ c1 = .string t := by
  obtain ⟨xs, m, -, rfl, hl, hlen, hf⟩ := DataW.trod_struct Tryd.underlying33 h
  match xs, hlen with
  | [y0, y1], _ =>
    obtain ⟨-, o2, -, -⟩ := onesT
    have h0 : DataW.trod enc Tryd.prog W b0 spare held m 9 [c0] = some y0 := by simpa [o2] using hf 0 _ rfl
    have h1 : DataW.trod enc Tryd.prog W b0 spare held m 9 [c1] = some y1 := by simpa [o2] using hf 1 _ rfl
    obtain ⟨s, e0, -, -⟩ := DataW.trod_string Tryd.underlying9 h0
    obtain ⟨t, e1, -, -⟩ := DataW.trod_string Tryd.underlying9 h1
    exact ⟨s, t, by simpa using e0, by simpa using e1⟩
set_option maxRecDepth 100000 in
theorem pairs_in {H : Type} {enc : TypeId × Value → H} {W : World} {b0 fuel : Nat} {spare : Nat → Bool} {held : Bool} {v : Value} {x : DataW H × List MemPlace} (hf : DataW.trod enc Tryd.prog W b0 spare held fuel 23 [v] = some x) :
    ∃ a c xs, v = .slice a xs.length c ∧ PRow All W a xs ∧ (a = none → c = 0) ∧ xs.length ≤ 9223372036854775807 := by
  rcases open_rowF Tryd.underlying23 hf with rfl | ⟨a, len, cap, n, -, rfl, h1, h2, hx⟩
  · exact ⟨none, 0, [], rfl, .inl rfl, fun _ => rfl, by simp⟩
  · obtain ⟨xs, hxl, hq⟩ := list_ofD (Q := fun i (p : Pr) => W.cell? (a.add (i * 2)) = some (.string p.1) ∧ W.cell? ((a.add (i * 2)).add 1) = some (.string p.2)) len fun i hi => by
      obtain ⟨cs', x', h1, h2⟩ := hx i hi
      rw [cellsPair] at h1
      obtain ⟨-, hlen2, h3⟩ := World.cells?_some h1
      match cs', hlen2 with
      | [c0, c1], _ =>
        obtain ⟨s, t, rfl, rfl⟩ := pair_trod h2
        exact ⟨(s, t), by simpa [Addr.add] using h3 0 (by omega), by simpa using h3 1 (by omega)⟩
    subst hxl
    refine ⟨some a, cap, xs, rfl, ?_, (fun h => by cases h), by unfold maxLen at h2; omega⟩
    cases xs with
    | nil => exact .inl rfl
    | cons p r =>
      obtain ⟨b, o, s⟩ := a
      have h0 := (hq 0 p rfl).1
      have e0 : (Addr.add ⟨b, o, s⟩ (0 * 2)) = ⟨b, o, s⟩ := by simp [Addr.add]
      rw [e0] at h0
      obtain ⟨h1, h2⟩ := cell_addrD h0
      simp only at h1 h2
      subst h1
      refine .inr ⟨b, o, rfl, h2, trivial, fun j z hj => ?_⟩
      obtain ⟨y0, y1⟩ := hq j z hj
      rw [Addr.add_lit] at y0
      rw [Addr.add_lit, Addr.add_lit] at y1
      exact ⟨y0, y1⟩
set_option maxRecDepth 100000 in
theorem tree_in {H : Type} {enc : TypeId × Value → H} {W : World} {b0 : Nat} {spare : Nat → Bool} {held : Bool} : ∀ (N fuel : Nat), fuel ≤ N → ∀ (cs : List Value) (x : DataW H × List MemPlace), DataW.trod enc Tryd.prog W b0 spare held fuel 26 cs = some x → ∃ t : Tr N, TLies All N W t cs.toArray
  | 0, fuel, hle, cs, x, h => by
    obtain ⟨xs, m, e, -⟩ := DataW.trod_struct Tryd.underlying26 h
    omega
  | N + 1, fuel, hle, cs, x, h => by
    obtain ⟨xs, m, e, -, hl, hlen, hf⟩ := DataW.trod_struct Tryd.underlying26 h
    rw [cellsTree] at hl
    match xs, hlen, cs, hl with
    | [y0, y1, y2, y3, y4], _, [c0, c1, c2, c3, c4], _ =>
      obtain ⟨o1, o2, o3, o4⟩ := onesT
      have h0 : DataW.trod enc Tryd.prog W b0 spare held m 22 [c0] = some y0 := by simpa [o1, o2, o3, o4] using hf 0 _ rfl
      have h1 : DataW.trod enc Tryd.prog W b0 spare held m 9 [c1] = some y1 := by simpa [o1, o2, o3, o4] using hf 1 _ rfl
      have h2 : DataW.trod enc Tryd.prog W b0 spare held m 9 [c2] = some y2 := by simpa [o1, o2, o3, o4] using hf 2 _ rfl
      have h3 : DataW.trod enc Tryd.prog W b0 spare held m 23 [c3] = some y3 := by simpa [o1, o2, o3, o4] using hf 3 _ rfl
      have h4 : DataW.trod enc Tryd.prog W b0 spare held m 24 [c4] = some y4 := by simpa [o1, o2, o3, o4] using hf 4 _ rfl
      obtain ⟨k, e0, -, -⟩ := DataW.trod_int Tryd.underlying22 h0
      obtain ⟨s, e1, -, -⟩ := DataW.trod_string Tryd.underlying9 h1
      obtain ⟨v, e2, -, -⟩ := DataW.trod_string Tryd.underlying9 h2
      obtain ⟨aa, ca, ps, e3, hA, hAn, hAl⟩ := pairs_in h3
      obtain rfl : c0 = .int .i64 k := by simpa using e0
      obtain rfl : c1 = .string s := by simpa using e1
      obtain rfl : c2 = .string v := by simpa using e2
      subst e3
      rcases open_rowF Tryd.underlying24 h4 with rfl | ⟨a, len, cap, n, hn, rfl, g1, g2, hx⟩
      · exact ⟨(⟨k, s, v, ps, []⟩ : Nd (Tr N)), aa, ca, none, 0, rfl, hAn, fun _ => rfl, hAl, by simp, hA, .inl rfl⟩
      · obtain ⟨ks, hkl, hq⟩ := list_ofD (Q := fun i (t : Tr N) => ∃ d0 d1 d2 d3 d4, W.cell? (a.add (i * 5)) = some d0 ∧ W.cell? ((a.add (i * 5)).add 1) = some d1 ∧ W.cell? ((a.add (i * 5)).add 2) = some d2 ∧ W.cell? ((a.add (i * 5)).add 3) = some d3 ∧ W.cell? ((a.add (i * 5)).add 4) = some d4 ∧ TLies All N W t #[d0, d1, d2, d3, d4]) len fun i hi => by
          obtain ⟨cs', x', q1, q2⟩ := hx i hi
          rw [cellsTree] at q1
          obtain ⟨-, hlen5, q3⟩ := World.cells?_some q1
          obtain ⟨t, ht⟩ := tree_in N n (by omega) cs' x' q2
          match cs', hlen5, ht with
          | [d0, d1, d2, d3, d4], _, ht =>
            exact ⟨t, d0, d1, d2, d3, d4, by simpa [Addr.add] using q3 0 (by omega), by simpa using q3 1 (by omega), by simpa using q3 2 (by omega), by simpa using q3 3 (by omega), by simpa using q3 4 (by omega), ht⟩
        subst hkl
        refine ⟨(⟨k, s, v, ps, ks⟩ : Nd (Tr N)), aa, ca, some a, cap, rfl, hAn, (fun h => by cases h), hAl, by show ks.length ≤ _; unfold maxLen at g2; omega, hA, ?_⟩
        show KRow All (TLies All N W) W (some a) ks
        cases ks with
        | nil => exact .inl rfl
        | cons p r =>
          obtain ⟨b, o, s⟩ := a
          obtain ⟨d0, -, -, -, -, q0, -⟩ := hq 0 p rfl
          have e0 : (Addr.add ⟨b, o, s⟩ (0 * 5)) = ⟨b, o, s⟩ := by simp [Addr.add]
          rw [e0] at q0
          obtain ⟨q1, q2⟩ := cell_addrD q0
          simp only at q1 q2
          subst q1
          refine .inr ⟨b, o, rfl, q2, trivial, fun j z hj => ?_⟩
          obtain ⟨d0, d1, d2, d3, d4, y0, y1, y2, y3, y4, y⟩ := hq j z hj
          rw [Addr.add_lit] at y0
          rw [Addr.add_lit, Addr.add_lit] at y1 y2 y3 y4
          exact ⟨d0, d1, d2, d3, d4, y0, y1, y2, y3, y4, y⟩
end Go.Proofs.YtgdbbocfiejlfaaDoor

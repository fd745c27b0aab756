/- Trees that came in, their letters counted; the law at what came in. -/
import Derived.Test.YtgdbbocfiejlfaaSeR
import Derived.Test.YtgdbbocfiejlfaaSeS
import Derived.Test.YtgdbbocfiejlfaaRows
import Derived.Deep.Slices
import Derived.ChangeArms
import Derived.ProofKit
import Derived.OpenShut
set_option linter.unusedVariables false
set_option linter.constructorNameAsVariable false
set_option linter.unusedSimpArgs false
namespace Go.Proofs.Ytgdbbocfiejlfaa
open Go.ChangeShapes Go.WideShapes Go.ChangeAt Go.RowKit

theorem sum_bulk {α H : Type} (f : α → Nat) : ∀ (xs : List α) (es : List (DataW H × List MemPlace)), xs.length = es.length → (∀ (j : Nat) (p : α) (e : _), xs[j]? = some p → es[j]? = some e → f p ≤ Rows.uptoBulk e.1) → sumN f xs ≤ Rows.uptoBulkAll (es.map (·.1))
  | [], _, _, _ => Nat.zero_le _
  | p :: r, [], h, _ => by simp at h
  | p :: r, e :: es, h, hf => by
    have h0 := hf 0 p e rfl rfl
    have h1 := sum_bulk f r es (by simpa using h) fun j q d hq hd => hf (j + 1) q d (by simpa using hq) (by simpa using hd)
    show f p + sumN f r ≤ Rows.uptoBulk e.1 + Rows.uptoBulkAll (es.map (·.1))
    omega
theorem open_rowG {H : Type} {enc : TypeId × Value → H} {P : Program} {w : World} {base : Nat} {spare : Nat → Bool} {held : Bool} {fuel : Nat} {t e : TypeId} {v : Value} {x : DataW H × List MemPlace} (ht : P.underlying t = some (.slice e)) (h : DataW.trod enc P w base spare held fuel t [v] = some x) :
    v = .slice none 0 0 ∨ ∃ (a : Addr) (len cap : Nat) (elems : List (DataW H × List MemPlace)) (n : Nat), fuel = n + 1 ∧ v = .slice (some a) len cap ∧ len ≤ cap ∧ cap ≤ maxLen ∧ elems.length = len ∧ Rows.uptoBulkAll (elems.map (·.1)) ≤ Rows.uptoBulk x.1 ∧ ∀ i, i < len → ∃ cs' x', elems[i]? = some x' ∧ w.cells? base (a.add (i * P.cellsOf e)) (P.cellsOf e) = some cs' ∧ DataW.trod enc P w base spare held n e cs' = some x' := by
  rcases DataW.trod_slice ht h with ⟨h0, -⟩ | ⟨a, len, cap, elems, rest, n, hf, hv, hx, -, hl, hm, hlen, hel, -, -⟩
  · exact .inl (by simpa using h0)
  · refine .inr ⟨a, len, cap, elems, n, hf, by simpa using hv, hl, hm, hlen, ?_, fun i hi => ?_⟩
    · rw [hx]
      show _ ≤ Rows.uptoBulkAll (elems.map (·.1)) + Rows.uptoBulkAll (rest.map (·.1)) + 1
      omega
    · have := hel i hi
      have hs : elems[i]? = some elems[i] := List.getElem?_eq_getElem (by omega)
      rw [hs] at this
      obtain ⟨cs', h1, h2⟩ := Option.bind_eq_some_iff.1 this
      exact ⟨cs', _, hs, h1, h2⟩
theorem cell_addrD {w : World} {a : Addr} {v : Value} (h : w.cell? a = some v) : a.spot = none ∧ a.block < w.heap.size := by
  obtain ⟨e, n, h1, h2, h3⟩ := World.shape?_of_cell? h
  refine ⟨h3, ?_⟩
  rcases Nat.lt_or_ge a.block w.heap.size with h4 | h4
  · exact h4
  · simp [World.cell?, Array.getElem?_eq_none h4] at h
theorem cellsPair : Try.prog.cellsOf 34 = 2 := by kernel_rfl
theorem cellsTree : Try.prog.cellsOf 31 = 5 := by kernel_rfl
theorem onesT : Try.prog.cellsOf 28 = 1 ∧ Try.prog.cellsOf 9 = 1 ∧ Try.prog.cellsOf 29 = 1 ∧ Try.prog.cellsOf 22 = 1 := ⟨by kernel_rfl, by kernel_rfl, by kernel_rfl, by kernel_rfl⟩
theorem lit_bulk {H : Type} (s : ByteArray) : Rows.uptoBulk (DataW.lit (H := H) (.string s.data.toList)) = s.size + 1 := by
  show s.data.toList.length + 1 = _
  simp
set_option maxRecDepth 100000 in
theorem pair_trod {H : Type} {enc : TypeId × Value → H} {W : World} {b0 fuel : Nat} {spare : Nat → Bool} {held : Bool} {c0 c1 : Value} {x : DataW H × List MemPlace}
    (h : DataW.trod enc Try.prog W b0 spare held fuel 34 [c0, c1] = some x) : ∃ s t : ByteArray, c0 = .string s ∧ c1 = .string t ∧ s.size + t.size ≤ Rows.uptoBulk x.1 := by
  obtain ⟨xs, m, -, rfl, hl, hlen, hf⟩ := DataW.trod_struct Try.underlying34 h
  match xs, hlen with
  | [y0, y1], _ =>
    obtain ⟨-, o2, -, -⟩ := onesT
    have h0 : DataW.trod enc Try.prog W b0 spare held m 9 [c0] = some y0 := by simpa [o2] using hf 0 _ rfl
    have h1 : DataW.trod enc Try.prog W b0 spare held m 9 [c1] = some y1 := by simpa [o2] using hf 1 _ rfl
    obtain ⟨s, e0, hy0, -⟩ := DataW.trod_string Try.underlying9 h0
    obtain ⟨t, e1, hy1, -⟩ := DataW.trod_string Try.underlying9 h1
    refine ⟨s, t, by simpa using e0, by simpa using e1, ?_⟩
    rw [hy0, hy1]
    show s.size + t.size ≤ Rows.uptoBulk (DataW.lit (.string s.data.toList)) + (Rows.uptoBulk (DataW.lit (.string t.data.toList)) + 0) + 1
    rw [lit_bulk, lit_bulk]
    omega
set_option maxRecDepth 100000 in
theorem pairs_in {H : Type} {enc : TypeId × Value → H} {W : World} {b0 fuel : Nat} {spare : Nat → Bool} {held : Bool} {v : Value} {x : DataW H × List MemPlace} (hf : DataW.trod enc Try.prog W b0 spare held fuel 29 [v] = some x) :
    ∃ a c xs, v = .slice a xs.length c ∧ PRow All W a xs ∧ (a = none → c = 0) ∧ xs.length ≤ 9223372036854775807 ∧ sumN totP xs ≤ Rows.uptoBulk x.1 := by
  rcases open_rowG Try.underlying29 hf with rfl | ⟨a, len, cap, elems, n, -, rfl, h1, h2, hel, hbk, hx⟩
  · exact ⟨none, 0, [], rfl, .inl rfl, fun _ => rfl, by simp, Nat.zero_le _⟩
  · obtain ⟨xs, hxl, hq⟩ := list_ofE (Q := fun i (p : Pr) => (W.cell? (a.add (i * 2)) = some (.string p.1) ∧ W.cell? ((a.add (i * 2)).add 1) = some (.string p.2)) ∧ ∀ d, elems[i]? = some d → totP p ≤ Rows.uptoBulk d.1) len fun i hi => by
      obtain ⟨cs', x', hd, h1, h2⟩ := hx i hi
      rw [cellsPair] at h1
      obtain ⟨-, hlen2, h3⟩ := World.cells?_some h1
      match cs', hlen2 with
      | [c0, c1], _ =>
        obtain ⟨s, t, rfl, rfl, hst⟩ := pair_trod h2
        refine ⟨(s, t), ⟨by simpa [Addr.add] using h3 0 (by omega), by simpa using h3 1 (by omega)⟩, fun d hd2 => ?_⟩
        rw [hd] at hd2
        cases hd2
        exact hst
    subst hxl
    have hsum := Nat.le_trans (sum_bulk totP xs elems hel.symm fun j p e hp he => (hq j p hp).2 e he) hbk
    refine ⟨some a, cap, xs, rfl, ?_, (fun h => by cases h), by unfold maxLen at h2; omega, hsum⟩
    cases xs with
    | nil => exact .inl rfl
    | cons p r =>
      obtain ⟨b, o, s⟩ := a
      have h0 := (hq 0 p rfl).1.1
      have e0 : (Addr.add ⟨b, o, s⟩ (0 * 2)) = ⟨b, o, s⟩ := by simp [Addr.add]
      rw [e0] at h0
      obtain ⟨h1, h2⟩ := cell_addrD h0
      simp only at h1 h2
      subst h1
      refine .inr ⟨b, o, rfl, h2, trivial, fun j z hj => ?_⟩
      obtain ⟨⟨y0, y1⟩, -⟩ := hq j z hj
      rw [Addr.add_lit] at y0
      rw [Addr.add_lit, Addr.add_lit] at y1
      exact ⟨y0, y1⟩
/-- A row of trees, from a reading of each. -/
theorem trees_row {H : Type} {W : World} {N : Nat} {a : Addr} {len : Nat} {elems : List (DataW H × List MemPlace)} (hel : elems.length = len)
    (hx : ∀ i, i < len → ∃ (cs' : List Value) (x' : DataW H × List MemPlace), elems[i]? = some x' ∧ W.cells? 0 (a.add (i * 5)) 5 = some cs' ∧ ∃ t : Tr N, TLies All N W t cs'.toArray ∧ totF N t ≤ Rows.uptoBulk x'.1) :
    ∃ ts : List (Tr N), ts.length = len ∧ TRowT N W (some a) ts ∧ sumN (totF N) ts ≤ Rows.uptoBulkAll (elems.map (·.1)) := by
  obtain ⟨ks, hkl, hq⟩ := list_ofE (Q := fun i (t : Tr N) => (∃ d0 d1 d2 d3 d4, W.cell? (a.add (i * 5)) = some d0 ∧ W.cell? ((a.add (i * 5)).add 1) = some d1 ∧ W.cell? ((a.add (i * 5)).add 2) = some d2 ∧ W.cell? ((a.add (i * 5)).add 3) = some d3 ∧ W.cell? ((a.add (i * 5)).add 4) = some d4 ∧ TLies All N W t #[d0, d1, d2, d3, d4]) ∧ ∀ d, elems[i]? = some d → totF N t ≤ Rows.uptoBulk d.1) len fun i hi => by
    obtain ⟨cs', x', hd, q1, t, ht, hb⟩ := hx i hi
    obtain ⟨-, hlen5, q3⟩ := World.cells?_some q1
    match cs', hlen5, ht with
    | [d0, d1, d2, d3, d4], _, ht =>
      refine ⟨t, ⟨d0, d1, d2, d3, d4, by simpa [Addr.add] using q3 0 (by omega), by simpa using q3 1 (by omega), by simpa using q3 2 (by omega), by simpa using q3 3 (by omega), by simpa using q3 4 (by omega), ht⟩, fun d hd2 => ?_⟩
      rw [hd] at hd2
      cases hd2
      exact hb
  refine ⟨ks, hkl, ?_, sum_bulk (totF N) ks elems (by omega) fun j p e hp he => (hq j p hp).2 e he⟩
  cases ks with
  | nil => exact .inl rfl
  | cons p r =>
    obtain ⟨b, o, s⟩ := a
    obtain ⟨⟨d0, -, -, -, -, q0, -⟩, -⟩ := hq 0 p rfl
    have e0 : (Addr.add ⟨b, o, s⟩ (0 * 5)) = ⟨b, o, s⟩ := by simp [Addr.add]
    rw [e0] at q0
    obtain ⟨q1, q2⟩ := cell_addrD q0
    simp only at q1 q2
    subst q1
    refine .inr ⟨b, o, rfl, q2, trivial, fun j z hj => ?_⟩
    obtain ⟨⟨d0, d1, d2, d3, d4, y0, y1, y2, y3, y4, y⟩, -⟩ := hq j z hj
    rw [Addr.add_lit] at y0
    rw [Addr.add_lit, Addr.add_lit] at y1 y2 y3 y4
    exact ⟨d0, d1, d2, d3, d4, y0, y1, y2, y3, y4, y⟩
set_option maxRecDepth 100000 in
theorem tree_in {H : Type} {enc : TypeId × Value → H} {W : World} {spare : Nat → Bool} {held : Bool} : ∀ (N fuel : Nat), fuel ≤ N → ∀ (cs : List Value) (x : DataW H × List MemPlace), DataW.trod enc Try.prog W 0 spare held fuel 31 cs = some x → ∃ t : Tr N, TLies All N W t cs.toArray ∧ totF N t ≤ Rows.uptoBulk x.1
  | 0, fuel, hle, cs, x, h => by
    obtain ⟨xs, m, e, -⟩ := DataW.trod_struct Try.underlying31 h
    omega
  | N + 1, fuel, hle, cs, x, h => by
    obtain ⟨xs, m, e, hx0, hl, hlen, hf⟩ := DataW.trod_struct Try.underlying31 h
    rw [cellsTree] at hl
    match xs, hlen, cs, hl with
    | [y0, y1, y2, y3, y4], _, [c0, c1, c2, c3, c4], _ =>
      obtain ⟨o1, o2, o3, o4⟩ := onesT
      have h0 : DataW.trod enc Try.prog W 0 spare held m 28 [c0] = some y0 := by simpa [o1, o2, o3, o4] using hf 0 _ rfl
      have h1 : DataW.trod enc Try.prog W 0 spare held m 9 [c1] = some y1 := by simpa [o1, o2, o3, o4] using hf 1 _ rfl
      have h2 : DataW.trod enc Try.prog W 0 spare held m 9 [c2] = some y2 := by simpa [o1, o2, o3, o4] using hf 2 _ rfl
      have h3 : DataW.trod enc Try.prog W 0 spare held m 29 [c3] = some y3 := by simpa [o1, o2, o3, o4] using hf 3 _ rfl
      have h4 : DataW.trod enc Try.prog W 0 spare held m 22 [c4] = some y4 := by simpa [o1, o2, o3, o4] using hf 4 _ rfl
      obtain ⟨k, e0, -, -⟩ := DataW.trod_int Try.underlying28 h0
      obtain ⟨s, e1, z1, -⟩ := DataW.trod_string Try.underlying9 h1
      obtain ⟨v, e2, z2, -⟩ := DataW.trod_string Try.underlying9 h2
      obtain ⟨aa, ca, ps, e3, hA, hAn, hAl, hAs⟩ := pairs_in h3
      obtain rfl : c0 = .int .i64 k := by simpa using e0
      obtain rfl : c1 = .string s := by simpa using e1
      obtain rfl : c2 = .string v := by simpa using e2
      subst e3
      have hbk : Rows.uptoBulk x.1 = Rows.uptoBulk y0.1 + (Rows.uptoBulk y1.1 + (Rows.uptoBulk y2.1 + (Rows.uptoBulk y3.1 + (Rows.uptoBulk y4.1 + 0)))) + 1 := by rw [hx0]; rfl
      have hb1 : Rows.uptoBulk y1.1 = s.size + 1 := by rw [z1]; exact lit_bulk s
      have hb2 : Rows.uptoBulk y2.1 = v.size + 1 := by rw [z2]; exact lit_bulk v
      rcases open_rowG Try.underlying22 h4 with rfl | ⟨a, len, cap, elems, n, hn, rfl, g1, g2, hel, hbk4, hx⟩
      · refine ⟨(⟨k, s, v, ps, []⟩ : Nd (Tr N)), ⟨aa, ca, none, 0, rfl, hAn, fun _ => rfl, hAl, by simp, hA, .inl rfl⟩, ?_⟩
        show s.size + v.size + sumN totP ps + 0 ≤ _
        omega
      · rw [cellsTree] at hx
        obtain ⟨ks, hkl, hrow, hsum⟩ := trees_row (N := N) hel fun i hi => by
          obtain ⟨cs', x', hd, q1, q2⟩ := hx i hi
          exact ⟨cs', x', hd, q1, tree_in N n (by omega) cs' x' q2⟩
        subst hkl
        refine ⟨(⟨k, s, v, ps, ks⟩ : Nd (Tr N)), ⟨aa, ca, some a, cap, rfl, hAn, (fun h => by cases h), hAl, by show ks.length ≤ _; unfold maxLen at g2; omega, hA, hrow⟩, ?_⟩
        show s.size + v.size + sumN totP ps + sumN (totF N) ks ≤ _
        omega
theorem spot_of {W : World} {base : Nat} {a : Addr} {len cap : Nat} (h : Value.okWide Try.prog W .any base 22 (.slice (some a) len cap)) : a.spot = none := by
  simp only [Value.okWide, Try.underlying22, Cell.okWide, Cell.ok] at h
  exact h.2.2.2.1
set_option maxRecDepth 100000 in
theorem parts_walk (H : Type) (enc : TypeId × Value → H) (W : World) (base : Nat) (v0 v1 : Value) (d0 d1 : DataW H) (p0 p1 : List MemPlace)
    (hv0 : Value.okWide Try.prog W .any base 22 v0) (hv1 : Value.okWide Try.prog W .any base 3 v1)
    (h0 : DataW.Trod enc Try.prog W 0 (fun _ => true) true 22 v0 d0 p0) (h1 : DataW.Trod enc Try.prog W 0 (fun _ => true) true 3 v1 d1 p1) (hk : Rows.uptoSmall H [d0, d1] = true)
    (m : Int) (hm : W.cell? ⟨0, 0, none⟩ = some (.int .i64 m)) :
    Calls Try.prog 3 #[v0, v1] W fun e W' => e = .returned (.bool true) ∧ Below W.heap.size W W' := by
  obtain ⟨z, rfl, -, hz⟩ := open_int Try.underlying3 hv1 h1
  have hz2 : -9223372036854775808 ≤ z ∧ z ≤ 9223372036854775807 := by
    simp only [Value.okWide, Try.underlying3, Cell.okWide, Cell.ok] at hv1
    exact hv1.2
  have hb : Rows.uptoBulk d0 + (Rows.uptoBulk d1 + 0) ≤ 1048576 := of_decide_eq_true hk
  obtain ⟨a0, l0, c0, rfl⟩ := okWide_slice Try.underlying22 hv0
  obtain ⟨fuel, hf⟩ := h0
  have hf2 : DataW.trod enc Try.prog W 0 (fun _ => true) true fuel 22 [.slice a0 l0 c0] = some (d0, p0) := hf
  rcases open_rowG Try.underlying22 hf2 with e | ⟨a, len, cap, elems, n, -, e, g1, g2, hel, hbk, hx⟩
  · cases e
    exact law_nil W m z hm hz2
  · cases e
    rw [cellsTree] at hx
    obtain ⟨ts, htl, hrow, hsum⟩ := trees_row (N := n + 1) hel fun i hi => by
      obtain ⟨cs', x', hd, q1, q2⟩ := hx i hi
      exact ⟨cs', x', hd, q1, tree_in (n + 1) n (by omega) cs' x' q2⟩
    subst htl
    have hs := spot_of hv0
    obtain ⟨b, o, s⟩ := a
    simp only at hs
    subst hs
    unfold maxLen at g2
    have hbk2 : Rows.uptoBulkAll (elems.map (·.1)) ≤ Rows.uptoBulk d0 := hbk
    exact law_some n ts b o c0 W m z hrow (by omega) g1 (by omega) (by omega) hm hz2
end Go.Proofs.Ytgdbbocfiejlfaa

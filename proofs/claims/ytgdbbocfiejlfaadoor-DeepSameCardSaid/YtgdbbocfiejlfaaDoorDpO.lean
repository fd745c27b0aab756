/- slices.DeleteFunc of an own row of trees. -/
import Derived.Test.YtgdbbocfiejlfaaDoorDpN
set_option linter.unusedSimpArgs false
set_option linter.unusedVariables false
set_option linter.constructorNameAsVariable false
namespace Go.Proofs.YtgdbbocfiejlfaaDoor
open Go.RowKit

theorem flat5_set : ∀ (L : List C5) (i : Nat) (c : C5), flat5 (L.set i c) = (((((flat5 L).set (i * 5) c.c0).set (i * 5 + 1) c.c1).set (i * 5 + 2) c.c2).set (i * 5 + 3) c.c3).set (i * 5 + 4) c.c4
  | [], i, c => by simp [flat5]
  | p :: r, 0, c => by simp [flat5]
  | p :: r, i + 1, c => by
    have ih := flat5_set r i c
    rw [List.set_cons_succ]
    show p.c0 :: p.c1 :: p.c2 :: p.c3 :: p.c4 :: flat5 (r.set i c) = _
    rw [ih]
    have e : (i + 1) * 5 = i * 5 + 1 + 1 + 1 + 1 + 1 := by omega
    rw [e]
    simp [flat5]
theorem Blk5.put {w : World} {g sz : Nat} {L : List C5} (h : Blk5 w g L sz) (i : Nat) (c : C5) :
    Blk5 (((((w.setCell ⟨g, i * 5, none⟩ c.c0).setCell ⟨g, i * 5 + 1, none⟩ c.c1).setCell ⟨g, i * 5 + 2, none⟩ c.c2).setCell ⟨g, i * 5 + 3, none⟩ c.c3).setCell ⟨g, i * 5 + 4, none⟩ c.c4) g (L.set i c) sz := by
  obtain ⟨cur, h1, h2, h3⟩ := h
  refine ⟨_, ?_, ((((h2.set (i * 5) c.c0).set (i * 5 + 1) c.c1).set (i * 5 + 2) c.c2).set (i * 5 + 3) c.c3).set (i * 5 + 4) c.c4, ?_⟩
  · simpa using h1
  · rw [flat5_set, ← h3]
    simp [List.take_set]
theorem Blk5.behind {g sz : Nat} {L : List C5} (m : Nat) : ∀ (zs : List Value) (o : Nat) (w : World), m * 5 ≤ o → Blk5 w g L sz → (∃ cur : Array Value, cur.size = sz ∧ Blk w g cur 26 ∧ cur.toList.take (m * 5) = (flat5 L).take (m * 5)) → ∃ cur : Array Value, cur.size = sz ∧ Blk (w.setCells g o zs) g cur 26 ∧ cur.toList.take (m * 5) = (flat5 L).take (m * 5)
  | [], o, w, ho, _, h => h
  | z :: r, o, w, ho, hB, ⟨cur, h1, h2, h3⟩ => by
    have h2' := h2.set o z
    have h4 : (cur.setIfInBounds o z).toList.take (m * 5) = (flat5 L).take (m * 5) := by
      rw [Array.toList_setIfInBounds, List.take_set, h3]
      rw [List.set_eq_of_length_le (by simp; omega)]
    have key : ∀ (w' : World), (∃ cur : Array Value, cur.size = sz ∧ Blk w' g cur 26 ∧ cur.toList.take (m * 5) = (flat5 L).take (m * 5)) → ∃ cur : Array Value, cur.size = sz ∧ Blk (w'.setCells g (o + 1) r) g cur 26 ∧ cur.toList.take (m * 5) = (flat5 L).take (m * 5) := by
      have gen : ∀ (r : List Value) (o : Nat) (w' : World), m * 5 ≤ o → (∃ cur : Array Value, cur.size = sz ∧ Blk w' g cur 26 ∧ cur.toList.take (m * 5) = (flat5 L).take (m * 5)) → ∃ cur : Array Value, cur.size = sz ∧ Blk (w'.setCells g o r) g cur 26 ∧ cur.toList.take (m * 5) = (flat5 L).take (m * 5) := by
        intro r
        induction r with
        | nil => intro o w' _ h; exact h
        | cons z r ih =>
          intro o w' ho ⟨cur, h1, h2, h3⟩
          refine ih (o + 1) _ (by omega) ⟨_, by simpa using h1, h2.set o z, ?_⟩
          rw [Array.toList_setIfInBounds, List.take_set, h3]
          rw [List.set_eq_of_length_le (by simp; omega)]
      exact fun w' h => gen r (o + 1) w' (by omega) h
    exact key _ ⟨_, by simpa using h1, h2', h4⟩
theorem flat5_take (L : List C5) (m : Nat) : flat5 (L.take m) = (flat5 L).take (m * 5) := by
  induction L generalizing m with
  | nil => simp [flat5]
  | cons p r ih =>
    cases m with
    | zero => simp [flat5]
    | succ m =>
      rw [List.take_succ_cons]
      show p.c0 :: p.c1 :: p.c2 :: p.c3 :: p.c4 :: flat5 (r.take m) = _
      rw [ih]
      have e : (m + 1) * 5 = m * 5 + 1 + 1 + 1 + 1 + 1 := by omega
      rw [e]
      simp [flat5]
theorem Blk5.cleared {w : World} {g sz : Nat} {L : List C5} (h : Blk5 w g L sz) (m : Nat) (hm : m ≤ L.length) (zs : List Value) : Blk5 (w.setCells g (m * 5) zs) g (L.take m) sz := by
  obtain ⟨cur, h1, h2, h3⟩ := h
  obtain ⟨cur', e1, e2, e3⟩ := Blk5.behind (L := L) m zs (m * 5) w (Nat.le_refl _) ⟨cur, h1, h2, h3⟩ ⟨cur, h1, h2, by
    rw [← h3, List.take_take]
    congr 1
    omega⟩
  refine ⟨cur', e1, e2, ?_⟩
  rw [flat5_take, List.length_take, Nat.min_eq_left hm]
  exact e3
theorem below_setCells {n g : Nat} (hg : n ≤ g) : ∀ (zs : List Value) (o : Nat) (a w : World), Below n a w → Below n a (w.setCells g o zs)
  | [], _, _, _, h => h
  | z :: r, o, a, w, h => below_setCells hg r (o + 1) a _ (h.setCell (p := ⟨g, o, none⟩) hg z)
set_option maxRecDepth 100000 in
theorem clear_run (w : World) (g o n c : Nat) (hn : 0 < n) (hc : ∀ j, j < n * 5 → (w.cell? ⟨g, o + j, none⟩).isSome = true) (hf : ∀ j, w.frozen? ⟨g, j, none⟩ = false) (ty : TypeId) :
    ∃ zs, (Builtin.clear_ #[24] ty #[.slice (some ⟨g, o, none⟩) n c]).run Tryd.prog w = .ok (.tuple #[]) (w.setCells g o zs) := by
  have hlen : (Builtin.zeroCells #[Value.int .i64 0, .string .empty, .string .empty, .slice none 0 0, .slice none 0 0] n).toList.length = n * 5 := by simp [Builtin.zeroCells]
  have hone : ∀ v ∈ (Builtin.zeroCells #[Value.int .i64 0, .string .empty, .string .empty, .slice none 0 0, .slice none 0 0] n).toList, v.oneCell' = true := by
    intro v hv
    simp only [Builtin.zeroCells, Array.toList_map, List.mem_map] at hv
    obtain ⟨i, -, rfl⟩ := hv
    have hi : i % 5 < 5 := Nat.mod_lt _ (by omega)
    show ((#[Value.int .i64 0, .string .empty, .string .empty, .slice none 0 0, .slice none 0 0] : Array Value)[i % 5]!).oneCell' = true
    have : i % 5 = 0 ∨ i % 5 = 1 ∨ i % 5 = 2 ∨ i % 5 = 3 ∨ i % 5 = 4 := by omega
    rcases this with h | h | h | h | h <;> rw [h] <;> rfl
  have hst := run_storeCells_cells (P := Tryd.prog) g o (Builtin.zeroCells #[Value.int .i64 0, .string .empty, .string .empty, .slice none 0 0, .slice none 0 0] n).toList 0 w (by intro j hj; rw [hlen] at hj; simpa using hc j hj) (by intro j hj; exact hf _) hone
  simp only [Nat.add_zero] at hst
  obtain ⟨m, rfl⟩ : ∃ m, n = m + 1 := ⟨n - 1, by omega⟩
  have hz : ∀ w, (zeroValue 26).run Tryd.prog w = .ok (.agg #[.int .i64 0, .string .empty, .string .empty, .slice none 0 0, .slice none 0 0]) w := Tryd.zeroValue26
  refine ⟨(Builtin.zeroCells #[Value.int .i64 0, .string .empty, .string .empty, .slice none 0 0, .slice none 0 0] (m + 1)).toList, ?_⟩
  clear hone hlen hc hf
  generalize hZ : Builtin.zeroCells #[Value.int .i64 0, .string .empty, .string .empty, .slice none 0 0, .slice none 0 0] (m + 1) = Z at hst ⊢
  simp [Builtin.clear_, run_underlying Tryd.underlying24, hz, Value.cells, hZ, hst]
end Go.Proofs.YtgdbbocfiejlfaaDoor

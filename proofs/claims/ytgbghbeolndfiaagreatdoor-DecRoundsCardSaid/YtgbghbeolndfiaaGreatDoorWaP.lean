/- Rows of numbers that came in, and such as the call itself makes of them. -/
import Derived.Test.YtgbghbeolndfiaaGreatDoorWaU
import Derived.Laws.AppendOwnNone
import Derived.OwnWalk
set_option linter.unusedSimpArgs false
set_option linter.unusedVariables false
namespace Go.Proofs.YtgbghbeolndfiaaGreatDoor
open Go.RowKit

/-- A row of numbers that came in: where it begins anywhere. -/
def ARow (w : World) (a : Option Addr) (c : Nat) (xs : List (Int × Int)) : Prop := (xs = [] ∧ (a = none → c = 0)) ∨ ∃ b o, a = some ⟨b, o, none⟩ ∧ b < w.heap.size ∧ ∀ j n s, xs[j]? = some (n, s) → w.cell? ⟨b, o + j * 2, none⟩ = some (.int .i64 n) ∧ w.cell? ⟨b, o + j * 2 + 1, none⟩ = some (.int .i64 s)
/-- The cells of such a row. -/
def cellsL : List (Int × Int) → List Value
  | [] => []
  | p :: r => .int .i64 p.1 :: .int .i64 p.2 :: cellsL r
theorem cellsL_len (xs : List (Int × Int)) : (cellsL xs).length = xs.length * 2 := by
  induction xs with
  | nil => rfl
  | cons p r ih => simp only [cellsL, List.length_cons, ih]; omega
theorem cellsL_one (xs : List (Int × Int)) : ∀ v ∈ cellsL xs, v.oneCell' = true := by
  induction xs with
  | nil => intro v hv; cases hv
  | cons p r ih =>
    intro v hv
    simp only [cellsL, List.mem_cons] at hv
    rcases hv with rfl | rfl | hv
    · rfl
    · rfl
    · exact ih v hv
theorem cellsL_at : ∀ (xs : List (Int × Int)) (k : Nat) (n s : Int), xs[k]? = some (n, s) → (cellsL xs)[k * 2]? = some (.int .i64 n) ∧ (cellsL xs)[k * 2 + 1]? = some (.int .i64 s)
  | [], k, n, s, h => by simp at h
  | p :: r, 0, n, s, h => by
    simp at h
    subst h
    exact ⟨rfl, rfl⟩
  | p :: r, k + 1, n, s, h => by
    have := cellsL_at r k n s (by simpa using h)
    rw [show (k + 1) * 2 = k * 2 + 1 + 1 by omega]
    simpa [cellsL] using this
theorem cellsL_of : ∀ (xs : List (Int × Int)) (j : Nat) (u : Value), (cellsL xs)[j]? = some u → ∃ k n s, xs[k]? = some (n, s) ∧ ((j = k * 2 ∧ u = .int .i64 n) ∨ (j = k * 2 + 1 ∧ u = .int .i64 s))
  | [], j, u, h => by simp [cellsL] at h
  | p :: r, 0, u, h => by
    simp [cellsL] at h
    exact ⟨0, p.1, p.2, rfl, .inl ⟨rfl, h.symm⟩⟩
  | p :: r, 1, u, h => by
    simp [cellsL] at h
    exact ⟨0, p.1, p.2, rfl, .inr ⟨rfl, h.symm⟩⟩
  | p :: r, j + 2, u, h => by
    obtain ⟨k, n, s, h1, h2⟩ := cellsL_of r j u (by simpa [cellsL] using h)
    exact ⟨k + 1, n, s, by simpa using h1, h2.elim (fun h => .inl ⟨by omega, h.2⟩) (fun h => .inr ⟨by omega, h.2⟩)⟩
theorem infoN : (Tryz.prog.info? 23).map (fun i => (i.zero, i.size, i.bytes)) = some (some (.agg #[.int .i64 0, .int .i64 0]), 2, 16) := by kernel_rfl
/-- The call's own row, read. -/
theorem nrow_own {w : World} {base : Nat} {v : Value} {xs : List (Int × Int)} (h : w.ownsRow base 23 2 v xs.length (cellsL xs)) : ∃ a c, v = .slice a xs.length c ∧ NRow w a xs := by
  obtain ⟨_, h⟩ := h
  rcases h with ⟨rfl, h0⟩ | ⟨g, cap, cur, rfl, h1, h2, h3, h4, h5, h6⟩
  · exact ⟨_, _, by rw [h0], .inl (List.length_eq_zero_iff.1 h0)⟩
  · have hB : Blk w g cur 23 := h2
    have hc : ∀ i x, (cellsL xs)[i]? = some x → w.cell? ⟨g, i, none⟩ = some x := fun i x hx => by
      rw [hB.cell i]
      rw [← h6, List.getElem?_take] at hx
      split at hx
      · simpa using hx
      · cases hx
    exact ⟨_, _, rfl, .inr ⟨g, rfl, hB.lt, fun j n s hj => ⟨hc _ _ (cellsL_at xs j n s hj).1, hc _ _ (cellsL_at xs j n s hj).2⟩⟩⟩
theorem grown_belowN {w w' : World} {base n : Nat} {v : Value} {xs : List Value} (h : w.ownsRow base 23 2 v n xs) (hg : w.grownBy w' v.ownBlock) (hb : base ≤ w.heap.size) : Below base w w' :=
  (Below.refl base w).grown hg hb fun k hk => by
    rcases h.2 with ⟨rfl, _⟩ | ⟨g, cap, cur, rfl, h1, _⟩
    · simp [Value.ownBlock] at hk
    · simp [Value.ownBlock] at hk; omega
/-- 'append(own, row...)', the own one empty. -/
theorem wpList_appN {ops : Array Oper} {rest : List Oper} {o : Oper} {act : Act} {Q : Exit → Act → World → Prop} {w : World} (hgd : o.guard = none) (s x : Operand)
    (ho : o.op = .call { callee := .builtin .append, args := #[s, x], argTypes := #[45, 45] }) (base : Nat) (v : Value) (xs : List (Int × Int)) (hs : act.eval s = v) (hown : w.ownsRow base 23 2 v 0 [])
    (ax : Option Addr) (c : Nat) (hx : act.eval x = .slice ax xs.length c) (hA : ARow w ax c xs) (hl : xs.length ≤ 10000000) (hb : base ≤ w.heap.size)
    (h : ∀ a' c' w', NRow w' a' xs → Below base w w' → wpList Tryz.prog ops Q rest (act.put o.dst (.slice a' xs.length c')) w') : wpList Tryz.prog ops Q (o :: rest) act w := by
  obtain ⟨i0, hi, hz0, hz1, hz2⟩ := info_parts infoN
  have hnone : ax = none → wpList Tryz.prog ops Q (o :: rest) act w := fun e => by
    subst e
    rcases hA with ⟨h0, h1⟩ | ⟨b, q, he, -⟩
    · subst h0
      obtain rfl := h1 rfl
      refine wpList_append_own_none hgd s x 45 ho base 23 i0 2 Tryz.underlying45 hi v 0 [] hs hown hx ?_
      obtain ⟨a', c', rfl, hN⟩ := nrow_own (xs := []) hown
      exact h a' c' w hN (Below.refl _ _)
    · cases he
  cases ax with
  | none => exact hnone rfl
  | some ad =>
    refine wpList_append_own w hgd s x 45 ho base 23 i0 (.agg #[.int .i64 0, .int .i64 0]) 2 16 Tryz.underlying45 hi hz0 hz1 hz2 rfl (by decide) v 0 [] hs hown ad xs.length c (cellsL xs) hx (cellsL_len xs) (fun j u hj => ?_) (cellsL_one xs) (by unfold maxLen; omega) (by omega) hb (fun v' w' h1 h2 _ => ?_)
    · obtain ⟨k, n, s', h1, h2⟩ := cellsL_of xs j u hj
      rcases hA with ⟨h0, -⟩ | ⟨b, q, he, hlt, hc⟩
      · subst h0; simp at h1
      cases he
      obtain ⟨y0, y1⟩ := hc k n s' h1
      rcases h2 with ⟨rfl, rfl⟩ | ⟨rfl, rfl⟩
      · by_cases hk : k = 0
        · subst hk; simpa [Addr.add] using y0
        · unfold Addr.add
          rw [if_neg (by omega)]
          exact y0
      · unfold Addr.add
        rw [if_neg (by omega)]
        exact y1
    · rw [Nat.zero_add, List.nil_append] at h1
      obtain ⟨a', c', rfl, hN⟩ := nrow_own h1
      exact h a' c' w' hN (grown_belowN hown h2 hb)
end Go.Proofs.YtgbghbeolndfiaaGreatDoor

/- Rows of values that the call itself makes: 'append' to them; Truth, the program's and the document's. -/
import Derived.Test.YtaoobajokhcimaaGreatDoorCpE
import Derived.Laws.AppendOwnNone
import Derived.OwnWalk
set_option linter.unusedSimpArgs false
set_option linter.unusedVariables false
set_option linter.constructorNameAsVariable false
namespace Go.Proofs.YtaoobajokhcimaaGreatDoor
open Go.RowKit Go.Sort

/-- The cells of a row of values. -/
def cellsA : List At → List Value
  | [] => []
  | p :: r => .int .i64 p.k :: .int .i64 p.n :: .int .i64 p.s :: .string p.t :: .bool p.b :: cellsA r
theorem cellsA_len (xs : List At) : (cellsA xs).length = xs.length * 5 := by
  induction xs with
  | nil => rfl
  | cons p r ih => simp only [cellsA, List.length_cons, ih]; omega
theorem cellsA_app (xs ys : List At) : cellsA (xs ++ ys) = cellsA xs ++ cellsA ys := by
  induction xs with
  | nil => rfl
  | cons p r ih => simp only [cellsA, List.cons_append, ih]
theorem cellsA_one (xs : List At) : ∀ v ∈ cellsA xs, v.oneCell' = true := by
  induction xs with
  | nil => intro v hv; cases hv
  | cons p r ih =>
    intro v hv
    simp only [cellsA, List.mem_cons] at hv
    rcases hv with rfl | rfl | rfl | rfl | rfl | hv
    · rfl
    · rfl
    · rfl
    · rfl
    · rfl
    · exact ih v hv
theorem cellsA_at : ∀ (xs : List At) (k : Nat) (x : At), xs[k]? = some x → (cellsA xs)[k * 5]? = some (.int .i64 x.k) ∧ (cellsA xs)[k * 5 + 1]? = some (.int .i64 x.n) ∧ (cellsA xs)[k * 5 + 2]? = some (.int .i64 x.s) ∧ (cellsA xs)[k * 5 + 3]? = some (.string x.t) ∧ (cellsA xs)[k * 5 + 4]? = some (.bool x.b)
  | [], k, x, h => by simp at h
  | p :: r, 0, x, h => by
    simp at h
    subst h
    exact ⟨rfl, rfl, rfl, rfl, rfl⟩
  | p :: r, k + 1, x, h => by
    have := cellsA_at r k x (by simpa using h)
    rw [show (k + 1) * 5 = k * 5 + 1 + 1 + 1 + 1 + 1 by omega]
    simpa [cellsA] using this
theorem cellsA_of : ∀ (xs : List At) (j : Nat) (u : Value), (cellsA xs)[j]? = some u → ∃ k x, xs[k]? = some x ∧ ((j = k * 5 ∧ u = .int .i64 x.k) ∨ (j = k * 5 + 1 ∧ u = .int .i64 x.n) ∨ (j = k * 5 + 2 ∧ u = .int .i64 x.s) ∨ (j = k * 5 + 3 ∧ u = .string x.t) ∨ (j = k * 5 + 4 ∧ u = .bool x.b))
  | [], j, u, h => by simp [cellsA] at h
  | p :: r, 0, u, h => by
    simp [cellsA] at h
    exact ⟨0, p, rfl, .inl ⟨rfl, h.symm⟩⟩
  | p :: r, 1, u, h => by
    simp [cellsA] at h
    exact ⟨0, p, rfl, .inr (.inl ⟨rfl, h.symm⟩)⟩
  | p :: r, 2, u, h => by
    simp [cellsA] at h
    exact ⟨0, p, rfl, .inr (.inr (.inl ⟨rfl, h.symm⟩))⟩
  | p :: r, 3, u, h => by
    simp [cellsA] at h
    exact ⟨0, p, rfl, .inr (.inr (.inr (.inl ⟨rfl, h.symm⟩)))⟩
  | p :: r, 4, u, h => by
    simp [cellsA] at h
    exact ⟨0, p, rfl, .inr (.inr (.inr (.inr ⟨rfl, h.symm⟩)))⟩
  | p :: r, j + 5, u, h => by
    obtain ⟨k, x, h1, h2⟩ := cellsA_of r j u (by simpa [cellsA] using h)
    refine ⟨k + 1, x, by simpa using h1, ?_⟩
    rcases h2 with h | h | h | h | h
    · exact .inl ⟨by omega, h.2⟩
    · exact .inr (.inl ⟨by omega, h.2⟩)
    · exact .inr (.inr (.inl ⟨by omega, h.2⟩))
    · exact .inr (.inr (.inr (.inl ⟨by omega, h.2⟩)))
    · exact .inr (.inr (.inr (.inr ⟨by omega, h.2⟩)))
theorem infoA : (Tryz.prog.info? 24).map (fun i => (i.zero, i.size, i.bytes)) = some (some (.agg #[.int .i64 0, .int .i64 0, .int .i64 0, .string .empty, .bool false]), 5, 48) := by kernel_rfl
/-- The call's own row, read. -/
theorem trow_own {w : World} {base : Nat} {v : Value} {xs : List At} (h : w.ownsRow base 24 5 v xs.length (cellsA xs)) : ∃ a c, v = .slice a xs.length c ∧ TRow w a xs ∧ (a = none → c = 0) := by
  obtain ⟨_, h⟩ := h
  rcases h with ⟨rfl, h0⟩ | ⟨g, cap, cur, rfl, h1, h2, h3, h4, h5, h6⟩
  · exact ⟨none, 0, by rw [h0], .inl (List.length_eq_zero_iff.1 h0), fun _ => rfl⟩
  · have hB : Blk w g cur 24 := h2
    have hc : ∀ i x, (cellsA xs)[i]? = some x → w.cell? ⟨g, i, none⟩ = some x := fun i x hx => by
      rw [hB.cell i]
      rw [← h6, List.getElem?_take] at hx
      split at hx
      · simpa using hx
      · cases hx
    refine ⟨some ⟨g, 0, none⟩, cap, rfl, .inr ⟨g, 0, rfl, hB.lt, fun j x hj => ?_⟩, fun h => by cases h⟩
    obtain ⟨y0, y1, y2, y3, y4⟩ := cellsA_at xs j x hj
    simp only [Nat.zero_add]
    exact ⟨hc _ _ y0, hc _ _ y1, hc _ _ y2, hc _ _ y3, hc _ _ y4⟩
theorem grown_belowA {w w' : World} {base n : Nat} {v : Value} {xs : List Value} (h : w.ownsRow base 24 5 v n xs) (hg : w.grownBy w' v.ownBlock) (hb : base ≤ w.heap.size) : Below base w w' :=
  (Below.refl base w).grown hg hb fun k hk => by
    rcases h.2 with ⟨rfl, _⟩ | ⟨g, cap, cur, rfl, h1, _⟩
    · simp [Value.ownBlock] at hk
    · simp [Value.ownBlock] at hk; omega
/-- 'append(own, row...)'. -/
theorem wpList_appA {ops : Array Oper} {rest : List Oper} {o : Oper} {act : Act} {Q : Exit → Act → World → Prop} {w : World} (hgd : o.guard = none) (s x : Operand)
    (ho : o.op = .call { callee := .builtin .append, args := #[s, x], argTypes := #[46, 46] }) (base : Nat) (v : Value) (zs xs : List At) (hs : act.eval s = v) (hown : w.ownsRow base 24 5 v zs.length (cellsA zs))
    (ax : Option Addr) (c : Nat) (hx : act.eval x = .slice ax xs.length c) (hA : TRow w ax xs) (hnil : ax = none → c = 0) (hl : zs.length + xs.length ≤ 10000000) (hb : base ≤ w.heap.size)
    (h : ∀ a' c' w', TRow w' a' (zs ++ xs) → Below base w w' → wpList Tryz.prog ops Q rest (act.put o.dst (.slice a' (zs ++ xs).length c')) w') : wpList Tryz.prog ops Q (o :: rest) act w := by
  obtain ⟨i0, hi, hz0, hz1, hz2⟩ := info_parts infoA
  cases ax with
  | none =>
    have hxs : xs = [] := by
      rcases hA with h0 | ⟨b, q, he, -⟩
      · exact h0
      · cases he
    subst hxs
    obtain rfl := hnil rfl
    refine wpList_append_own_none hgd s x 46 ho base 24 i0 5 Tryz.underlying46 hi v zs.length (cellsA zs) hs hown hx ?_
    obtain ⟨a', c', rfl, hN, -⟩ := trow_own hown
    have := h a' c' w (by simpa using hN) (Below.refl _ _)
    simpa using this
  | some ad =>
    refine wpList_append_own w hgd s x 46 ho base 24 i0 (.agg #[.int .i64 0, .int .i64 0, .int .i64 0, .string .empty, .bool false]) 5 48 Tryz.underlying46 hi hz0 hz1 hz2 rfl (by decide) v zs.length (cellsA zs) hs hown ad xs.length c (cellsA xs) hx (cellsA_len xs) (fun j u hj => ?_) (cellsA_one xs) (by unfold maxLen; omega) (by omega) hb (fun v' w' h1 h2 _ => ?_)
    · obtain ⟨k, p, h1, h2⟩ := cellsA_of xs j u hj
      rcases hA with h0 | ⟨b, q, he, hlt, hc⟩
      · subst h0; simp at h1
      cases he
      obtain ⟨y0, y1, y2, y3, y4⟩ := hc k p h1
      rcases h2 with ⟨rfl, rfl⟩ | ⟨rfl, rfl⟩ | ⟨rfl, rfl⟩ | ⟨rfl, rfl⟩ | ⟨rfl, rfl⟩
      · by_cases hk : k = 0
        · subst hk; simpa [Addr.add] using y0
        · unfold Addr.add
          rw [if_neg (by omega)]
          exact y0
      all_goals
        unfold Addr.add
        rw [if_neg (by omega)]
        assumption
    · rw [← cellsA_app, ← List.length_append] at h1
      obtain ⟨a', c', rfl, hN, -⟩ := trow_own h1
      exact h a' c' w' hN (grown_belowA hown h2 hb)

set_option maxRecDepth 100000 in
theorem truth_walk (first : Bool) (a : Option Addr) (c : Nat) (xs : List At) (w : World) (hR : TRow w a xs) (hl : xs.length ≤ 1152921504606846976) : Calls Tryz.prog 33 #[.bool first, .slice a xs.length c] w fun e w' => e = .returned (.tuple #[.bool (truthF first xs).1, .int .i64 (truthF first xs).2]) ∧ Below w.heap.size w w' := by
  unfold truthF
  cases first
  · simp only [Bool.false_eq_true, if_false]
    match xs, hR, hl with
    | [], hR, hl =>
      go_enter Tryz.func33, Tryz.ntmps33
      go_wp2_with fail
      go_ret2
      exact ⟨rfl, Below.refl _ _⟩
    | [x], hR, hl =>
      rcases hR with h0 | ⟨g, o, rfl, hb, hc⟩
      · cases h0
      obtain ⟨y0, y1, y2, y3, y4⟩ := hc 0 x rfl
      rw [show o + 0 * 5 = o by omega] at y0 y1 y2 y3 y4
      clear hc hl
      obtain ⟨k, n, s, t, b⟩ := x
      simp only at y0 y1 y2 y3 y4
      cases b
      · cases et : (t.toList == [])
        · have et2 : (t.toList != []) = true := by unfold bne; rw [et]; rfl
          go_enter Tryz.func33, Tryz.ntmps33
          go_wp2_with fail
          go_ret2
          exact ⟨by simp [et, et2], by go_grown⟩
        · have et2 : (t.toList != []) = false := by unfold bne; rw [et]; rfl
          go_enter Tryz.func33, Tryz.ntmps33
          go_wp2_with fail
          go_ret2
          exact ⟨by simp [et, et2], by go_grown⟩
      · go_enter Tryz.func33, Tryz.ntmps33
        go_wp2_with fail
        go_ret2
        exact ⟨by simp, by go_grown⟩
    | x :: y :: r, hR, hl =>
      have hl2 : (1 : Int) < ((x :: y :: r).length : Int) := by simp; omega
      have hl3 : (((x :: y :: r).length : Int) == 0) = false := by simp; omega
      generalize (x :: y :: r).length = L at *
      go_enter Tryz.func33, Tryz.ntmps33
      go_wp2_with fail
      go_ret2
      exact ⟨rfl, by go_grown⟩
  · go_enter Tryz.func33, Tryz.ntmps33
    go_wp2_with fail
    go_ret2
    exact ⟨rfl, Below.refl _ _⟩
end Go.Proofs.YtaoobajokhcimaaGreatDoor

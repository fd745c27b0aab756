/- The document's Copy. -/
import Derived.Test.YtgdbbocfiejlfaaDoorDpE
set_option linter.unusedSimpArgs false
set_option linter.unusedVariables false
set_option linter.constructorNameAsVariable false
namespace Go.Proofs.YtgdbbocfiejlfaaDoor
open Go.RowKit

theorem Own5.below {base n : Nat} {w w' : World} {v : Value} {vs : List C5} (h : Own5 base w v vs) (hb : Below n w w') (hv : ∀ g, v.ownBlock = some g → g < n) : Own5 base w' v vs := by
  refine ⟨h.1, ?_⟩
  rcases h.2 with h0 | ⟨g, cap, cur, rfl, h1, h2, h3, h4, h5, h6⟩
  · exact .inl h0
  · exact .inr ⟨g, cap, cur, rfl, h1, (show Blk w' g cur 26 from Blk.below h2 hb (hv g rfl)), h3, h4, h5, h6⟩
theorem Own5.lt {base : Nat} {w : World} {v : Value} {vs : List C5} (h : Own5 base w v vs) : ∀ g, v.ownBlock = some g → g < w.heap.size := by
  intro g hg
  rcases h.2 with ⟨rfl, -⟩ | ⟨g', cap, cur, rfl, h1, h2, -⟩
  · cases hg
  · obtain rfl : g' = g := by simpa [Value.ownBlock] using hg
    exact Blk.lt h2
/-- 'append(own, one)': the row grows where it lies, or in a new block. -/
theorem wpList_app5f {ops : Array Oper} {rest : List Oper} {o : Oper} {act : Act} {Q : Exit → Act → World → Prop} {w : World} (hgd : o.guard = none) (s x : Operand)
    (ho : o.op = .call { callee := .builtin .append, args := #[s, x], argTypes := #[24, 24] }) (base : Nat) (v : Value) (vs : List C5) (hs : act.eval s = v) (hown : Own5 base w v vs)
    (q c : Nat) (p : C5) (hx : act.eval x = .slice (some ⟨q, 0, none⟩) 1 c) (hp : p.one) (hB : Blk w q p.arr 26) (hl : vs.length + 1 ≤ 1000000000) (hb : base ≤ w.heap.size)
    (h : ∀ v' w', Own5 base w' v' (vs ++ [p]) → w.grownBy w' v.ownBlock → (∀ g, v'.ownBlock = some g → v.ownBlock = some g ∨ w.heap.size ≤ g) → wpList Tryd.prog ops Q rest (act.put o.dst v') w') : wpList Tryd.prog ops Q (o :: rest) act w := by
  obtain ⟨i0, hi, hz0, hz1, hz2⟩ := info_parts infoT
  obtain ⟨o0, o1, o2, o3, o4⟩ := hp
  have hnews : ∀ (j : Nat) (u : Value), [p.c0, p.c1, p.c2, p.c3, p.c4][j]? = some u → w.cell? ((⟨q, 0, none⟩ : Addr).add j) = some u := fun j u hj => by
    rw [Addr.add_lit, Nat.zero_add, hB.cell j]
    simpa [C5.arr] using hj
  have hone : ∀ u ∈ [p.c0, p.c1, p.c2, p.c3, p.c4], u.oneCell' = true := fun u hu => by
    simp only [List.mem_cons, List.not_mem_nil, or_false] at hu
    rcases hu with rfl | rfl | rfl | rfl | rfl <;> assumption
  obtain ⟨v', w', hr, h1, h2, -⟩ := run_append_own (P := Tryd.prog) (w := w) base 24 o.type 26 i0 (.agg #[.int .i64 0, .string .empty, .string .empty, .slice none 0 0, .slice none 0 0]) 5 88 Tryd.underlying24 hi hz0 hz1 hz2 rfl (by decide) v vs.length (flat5 vs) hown ⟨q, 0, none⟩ 1 c [p.c0, p.c1, p.c2, p.c3, p.c4] rfl hnews hone (by unfold maxLen; omega) (by omega) hb
  have hfr : ∀ g, v'.ownBlock = some g → v.ownBlock = some g ∨ w.heap.size ≤ g := by
    intro g hg
    have hfresh : ∀ (u : Value) (w2 : World), w2.ownsRow w.heap.size 26 5 u (vs.length + 1) (flat5 vs ++ [p.c0, p.c1, p.c2, p.c3, p.c4]) → ∀ g, u.ownBlock = some g → w.heap.size ≤ g := by
      intro u w2 hu g hg
      rcases hu.2 with ⟨rfl, -⟩ | ⟨g', cap, cur, rfl, h1, -⟩
      · cases hg
      · obtain rfl : g' = g := by simpa [Value.ownBlock] using hg
        exact h1
    rcases hown.2 with ⟨rfl, h0⟩ | ⟨g0, cap, cur, rfl, e1, e2, e3, e4, e5, e6⟩
    · have hvs : vs = [] := List.length_eq_zero_iff.1 h0
      subst hvs
      obtain ⟨v2, w2, hr2, k1, -, -⟩ := run_append_own (P := Tryd.prog) (w := w) w.heap.size 24 o.type 26 i0 (.agg #[.int .i64 0, .string .empty, .string .empty, .slice none 0 0, .slice none 0 0]) 5 88 Tryd.underlying24 hi hz0 hz1 hz2 rfl (by decide) (.slice none 0 0) 0 [] (World.ownsRow_nil w _ _ 5) ⟨q, 0, none⟩ 1 c [p.c0, p.c1, p.c2, p.c3, p.c4] rfl hnews hone (by unfold maxLen; omega) (by omega) (Nat.le_refl _)
      rw [hr] at hr2
      cases hr2
      exact .inr (hfresh _ _ (by simpa [flat5] using k1) g hg)
    · have eB : Blk w g0 cur 26 := e2
      by_cases hroom : vs.length + 1 ≤ cap
      · have hsz : cur.size = cap * 5 := e5
        have e7 : i0.size = 5 := hz1
        have hrun := run_append_room_cells (P := Tryd.prog) w 24 o.type 26 i0 Tryd.underlying24 hi g0 0 vs.length cap ⟨q, 0, none⟩ 1 c [p.c0, p.c1, p.c2, p.c3, p.c4] (by rw [e7]; rfl) hnews hone hroom
          (fun j hj => by
            rw [e7, eB.cell]
            have : 0 + vs.length * 5 + j < cur.size := by simp at hj; omega
            simp only [Array.getElem?_eq_getElem this, Option.isSome_some])
          (fun j hj => eB.free _)
        rw [hr] at hrun
        cases hrun
        exact .inl hg
      · have hrun := run_append_arg_grows (P := Tryd.prog) w 24 o.type 26 i0 (.agg #[.int .i64 0, .string .empty, .string .empty, .slice none 0 0, .slice none 0 0]) 5 88 Tryd.underlying24 hi hz0 hz1 hz2 rfl (by decide) ⟨g0, 0, none⟩ vs.length cap (flat5 vs) (flat5_len vs)
          (fun j u hj => by
            rw [Addr.add_lit, Nat.zero_add, eB.cell j]
            rw [← e6, List.getElem?_take] at hj
            split at hj
            · simpa using hj
            · cases hj)
          ⟨q, 0, none⟩ 1 c [p.c0, p.c1, p.c2, p.c3, p.c4] rfl hnews (by omega) (by unfold maxLen; omega) (by omega)
        obtain ⟨v2, w2, hr2, k1, -⟩ := hrun
        rw [hr] at hr2
        cases hr2
        exact .inr (hfresh _ _ k1 g hg)
  refine wpList_plain hgd fun K hK => ?_
  unfold Oper.wp
  simp [execOp, ho, resolve, invoke, builtin, hs, hx, hr, Result.andThen]
  refine hK _ _ (h v' w' ?_ h2 hfr)
  unfold Own5
  rw [flat5_app, List.length_append]
  exact h1
def cellsP : List Pr → List Value
  | [] => []
  | p :: r => .string p.1 :: .string p.2 :: cellsP r
theorem cellsP_len (xs : List Pr) : (cellsP xs).length = xs.length * 2 := by
  induction xs with
  | nil => rfl
  | cons p r ih => simp only [cellsP, List.length_cons, ih]; omega
theorem cellsP_one (xs : List Pr) : ∀ v ∈ cellsP xs, v.oneCell' = true := by
  induction xs with
  | nil => intro v hv; cases hv
  | cons p r ih =>
    intro v hv
    simp only [cellsP, List.mem_cons] at hv
    rcases hv with rfl | rfl | hv
    · rfl
    · rfl
    · exact ih v hv
theorem cellsP_at : ∀ (xs : List Pr) (k : Nat) (x : Pr), xs[k]? = some x → (cellsP xs)[k * 2]? = some (.string x.1) ∧ (cellsP xs)[k * 2 + 1]? = some (.string x.2)
  | [], k, x, h => by simp at h
  | p :: r, 0, x, h => by
    simp at h
    subst h
    exact ⟨rfl, rfl⟩
  | p :: r, k + 1, x, h => by
    have := cellsP_at r k x (by simpa using h)
    rw [show (k + 1) * 2 = k * 2 + 1 + 1 by omega]
    simpa [cellsP] using this
theorem cellsP_of : ∀ (xs : List Pr) (j : Nat) (u : Value), (cellsP xs)[j]? = some u → ∃ k x, xs[k]? = some x ∧ ((j = k * 2 ∧ u = .string x.1) ∨ (j = k * 2 + 1 ∧ u = .string x.2))
  | [], j, u, h => by simp [cellsP] at h
  | p :: r, 0, u, h => by
    simp [cellsP] at h
    exact ⟨0, p, rfl, .inl ⟨rfl, h.symm⟩⟩
  | p :: r, 1, u, h => by
    simp [cellsP] at h
    exact ⟨0, p, rfl, .inr ⟨rfl, h.symm⟩⟩
  | p :: r, j + 2, u, h => by
    obtain ⟨k, x, h1, h2⟩ := cellsP_of r j u (by simpa [cellsP] using h)
    refine ⟨k + 1, x, by simpa using h1, ?_⟩
    rcases h2 with h | h
    · exact .inl ⟨by omega, h.2⟩
    · exact .inr ⟨by omega, h.2⟩
theorem infoP : (Tryd.prog.info? 33).map (fun i => (i.zero, i.size, i.bytes)) = some (some (.agg #[.string .empty, .string .empty]), 2, 32) := by kernel_rfl
theorem prow_own {w : World} {base : Nat} {v : Value} {xs : List Pr} (h : w.ownsRow base 33 2 v xs.length (cellsP xs)) : ∃ a c, v = .slice a xs.length c ∧ PRow (fun b => base ≤ b) w a xs ∧ (a = none → c = 0) := by
  obtain ⟨_, h⟩ := h
  rcases h with ⟨rfl, h0⟩ | ⟨g, cap, cur, rfl, h1, h2, h3, h4, h5, h6⟩
  · exact ⟨none, 0, by rw [h0], .inl (List.length_eq_zero_iff.1 h0), fun _ => rfl⟩
  · have hB : Blk w g cur 33 := h2
    have hc : ∀ i x, (cellsP xs)[i]? = some x → w.cell? ⟨g, i, none⟩ = some x := fun i x hx => by
      rw [hB.cell i]
      rw [← h6, List.getElem?_take] at hx
      split at hx
      · simpa using hx
      · cases hx
    refine ⟨some ⟨g, 0, none⟩, cap, rfl, .inr ⟨g, 0, rfl, hB.lt, h1, fun j x hj => ?_⟩, fun h => by cases h⟩
    obtain ⟨y0, y1⟩ := cellsP_at xs j x hj
    simp only [Nat.zero_add]
    exact ⟨hc _ _ y0, hc _ _ y1⟩
/-- 'append([]api.Pair(nil), row...)'. -/
theorem wpList_appP {ops : Array Oper} {rest : List Oper} {o : Oper} {act : Act} {Q : Exit → Act → World → Prop} {w : World} {S : Nat → Prop} (hgd : o.guard = none) (s x : Operand)
    (ho : o.op = .call { callee := .builtin .append, args := #[s, x], argTypes := #[23, 23] }) (hs : act.eval s = .slice none 0 0)
    (ax : Option Addr) (c : Nat) (xs : List Pr) (hx : act.eval x = .slice ax xs.length c) (hA : PRow S w ax xs) (hnil : ax = none → c = 0) (hl : xs.length ≤ 1000000)
    (h : ∀ a' c' w', PRow (fun b => w.heap.size ≤ b) w' a' xs → (a' = none → c' = 0) → Below w.heap.size w w' → wpList Tryd.prog ops Q rest (act.put o.dst (.slice a' xs.length c')) w') : wpList Tryd.prog ops Q (o :: rest) act w := by
  obtain ⟨i0, hi, hz0, hz1, hz2⟩ := info_parts infoP
  cases ax with
  | none =>
    have hxs : xs = [] := by
      rcases hA with h0 | ⟨b, q, he, -⟩
      · exact h0
      · cases he
    subst hxs
    obtain rfl := hnil rfl
    exact wpList_append_own_none hgd s x 23 ho w.heap.size 33 i0 2 Tryd.underlying23 hi (.slice none 0 0) 0 [] hs (World.ownsRow_nil w _ _ 2) hx (h none 0 w (.inl rfl) (fun _ => rfl) (Below.refl _ _))
  | some ad =>
    refine wpList_append_own w hgd s x 23 ho w.heap.size 33 i0 (.agg #[.string .empty, .string .empty]) 2 32 Tryd.underlying23 hi hz0 hz1 hz2 rfl (by decide) (.slice none 0 0) 0 [] hs (World.ownsRow_nil w _ _ 2) ad xs.length c (cellsP xs) hx (cellsP_len xs) (fun j u hj => ?_) (cellsP_one xs) (by unfold maxLen; omega) (by omega) (Nat.le_refl _) (fun v' w' h1 h2 _ => ?_)
    · obtain ⟨k, p, h1, h2⟩ := cellsP_of xs j u hj
      rcases hA with h0 | ⟨b, q, he, hlt, -, hc⟩
      · subst h0; simp at h1
      cases he
      obtain ⟨y0, y1⟩ := hc k p h1
      rw [Addr.add_lit]
      rcases h2 with ⟨rfl, rfl⟩ | ⟨rfl, rfl⟩
      · exact y0
      · rw [← Nat.add_assoc]; exact y1
    · rw [Nat.zero_add, List.nil_append] at h1
      obtain ⟨a', c', rfl, hN, hn⟩ := prow_own h1
      exact h a' c' w' hN hn ((Below.refl _ w).grown h2 (Nat.le_refl _) (fun k hk => by cases hk))
end Go.Proofs.YtgdbbocfiejlfaaDoor

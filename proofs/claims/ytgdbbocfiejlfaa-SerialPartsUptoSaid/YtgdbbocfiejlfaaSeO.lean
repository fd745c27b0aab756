/- Own rows of trees, appended to as a step of a region that draws. -/
import Derived.Test.YtgdbbocfiejlfaaSeN
import Derived.Laws.AppendOwnNone
set_option linter.unusedSimpArgs false
set_option linter.unusedVariables false
set_option linter.constructorNameAsVariable false
namespace Go.Proofs.Ytgdbbocfiejlfaa
open Go.RowKit

/-- Five cells. -/
structure C5 where
  c0 : Value
  c1 : Value
  c2 : Value
  c3 : Value
  c4 : Value
def C5.arr (x : C5) : Array Value := #[x.c0, x.c1, x.c2, x.c3, x.c4]
def C5.one (x : C5) : Prop := x.c0.oneCell' = true ∧ x.c1.oneCell' = true ∧ x.c2.oneCell' = true ∧ x.c3.oneCell' = true ∧ x.c4.oneCell' = true
def flat5 : List C5 → List Value
  | [] => []
  | p :: r => p.c0 :: p.c1 :: p.c2 :: p.c3 :: p.c4 :: flat5 r
theorem flat5_len (xs : List C5) : (flat5 xs).length = xs.length * 5 := by
  induction xs with
  | nil => rfl
  | cons p r ih => simp only [flat5, List.length_cons, ih]; omega
theorem flat5_app (xs ys : List C5) : flat5 (xs ++ ys) = flat5 xs ++ flat5 ys := by
  induction xs with
  | nil => rfl
  | cons p r ih => simp only [flat5, List.cons_append, ih]
theorem flat5_at : ∀ (xs : List C5) (k : Nat) (x : C5), xs[k]? = some x → (flat5 xs)[k * 5]? = some x.c0 ∧ (flat5 xs)[k * 5 + 1]? = some x.c1 ∧ (flat5 xs)[k * 5 + 2]? = some x.c2 ∧ (flat5 xs)[k * 5 + 3]? = some x.c3 ∧ (flat5 xs)[k * 5 + 4]? = some x.c4
  | [], k, x, h => by simp at h
  | p :: r, 0, x, h => by
    simp at h
    subst h
    exact ⟨rfl, rfl, rfl, rfl, rfl⟩
  | p :: r, k + 1, x, h => by
    have := flat5_at r k x (by simpa using h)
    rw [show (k + 1) * 5 = k * 5 + 1 + 1 + 1 + 1 + 1 by omega]
    simpa [flat5] using this
theorem infoT : (Try.prog.info? 31).map (fun i => (i.zero, i.size, i.bytes)) = some (some (.agg #[.int .i64 0, .string .empty, .string .empty, .slice none 0 0, .slice none 0 0]), 5, 88) := by kernel_rfl
/-- An own row that holds these. -/
def Own5 (base : Nat) (w : World) (v : Value) (vs : List C5) : Prop := w.ownsRow base 31 5 v vs.length (flat5 vs)
theorem Own5.nil (base : Nat) (w : World) : Own5 base w (.slice none 0 0) [] := World.ownsRow_nil w base _ 5
/-- The own row, read. -/
theorem own5_read {α : Type} {w : World} {base : Nat} {v : Value} {vs : List C5} (h : Own5 base w v vs) (xs : List α) (R : α → Array Value → Prop) (hl : vs.length = xs.length) (hR : ∀ (j : Nat) (x : _) (c : C5), xs[j]? = some x → vs[j]? = some c → R x c.arr) :
    ∃ a c, v = .slice a xs.length c ∧ KRow (fun b => base ≤ b) R w a xs ∧ (a = none → c = 0) := by
  obtain ⟨_, h⟩ := h
  rcases h with ⟨rfl, h0⟩ | ⟨g, cap, cur, rfl, h1, h2, h3, h4, h5, h6⟩
  · have e : vs = [] := by
      cases vs with
      | nil => rfl
      | cons p r => simp [flat5] at h0
    subst e
    have e2 : xs = [] := List.length_eq_zero_iff.1 hl.symm
    subst e2
    exact ⟨none, 0, rfl, .inl rfl, fun _ => rfl⟩
  · have hB : Blk w g cur 31 := h2
    have hc : ∀ i x, (flat5 vs)[i]? = some x → w.cell? ⟨g, i, none⟩ = some x := fun i x hx => by
      rw [hB.cell i]
      rw [← h6, List.getElem?_take] at hx
      split at hx
      · simpa using hx
      · cases hx
    refine ⟨some ⟨g, 0, none⟩, cap, by rw [hl], .inr ⟨g, 0, rfl, hB.lt, h1, fun j x hj => ?_⟩, fun h => by cases h⟩
    obtain ⟨c, hjc⟩ : ∃ c, vs[j]? = some c := by
      have : j < vs.length := by
        rw [hl]
        rcases Nat.lt_or_ge j xs.length with h' | h'
        · exact h'
        · simp [List.getElem?_eq_none h'] at hj
      exact ⟨vs[j], by simp [this]⟩
    obtain ⟨y0, y1, y2, y3, y4⟩ := flat5_at vs j c hjc
    simp only [Nat.zero_add]
    exact ⟨_, _, _, _, _, hc _ _ y0, hc _ _ y1, hc _ _ y2, hc _ _ y3, hc _ _ y4, hR j x c hj hjc⟩
theorem Own5.grown {w w' : World} {base n : Nat} {v : Value} {vs : List C5} (h : Own5 base w v vs) (hg : w.grownBy w' v.ownBlock) (hn : n ≤ base) (hb : n ≤ w.heap.size) : Below n w w' :=
  (Below.refl n w).grown hg hb fun k hk => by
    rcases h.2 with ⟨rfl, _⟩ | ⟨g, cap, cur, rfl, h1, _⟩
    · simp [Value.ownBlock] at hk
    · simp [Value.ownBlock] at hk; omega
theorem TLies.one {S : Nat → Prop} {h : Nat} {w : World} {t : Tr h} {c0 c1 c2 c3 c4 : Value} (H : TLies S h w t #[c0, c1, c2, c3, c4]) : C5.one ⟨c0, c1, c2, c3, c4⟩ := by
  cases h with
  | zero => exact nomatch t
  | succ h =>
    obtain ⟨aa, ca, ka, ck, H⟩ := H
    have e := H.cells
    simp only [Array.mk.injEq, List.cons.injEq, and_true] at e
    obtain ⟨rfl, rfl, rfl, rfl, rfl⟩ := e
    exact ⟨rfl, rfl, rfl, rfl, rfl⟩
theorem TLies.kind {S : Nat → Prop} {h : Nat} {w : World} {t : Tr h} {c0 c1 c2 c3 c4 : Value} (H : TLies S h w t #[c0, c1, c2, c3, c4]) : c0 = .int .i64 (kindT h t) := by
  cases h with
  | zero => exact nomatch t
  | succ h =>
    obtain ⟨aa, ca, ka, ck, H⟩ := H
    have e := H.cells
    simp only [Array.mk.injEq, List.cons.injEq, and_true] at e
    exact e.1
/-- What lies in an own row. -/
def Rep5 (h : Nat) (w : World) (xs : List (Tr h)) (vs : List C5) : Prop := vs.length = xs.length ∧ ∀ (j : Nat) (x : _) (c : C5), xs[j]? = some x → vs[j]? = some c → TLies All h w x c.arr
theorem TLies.shape {S : Nat → Prop} {h : Nat} {w : World} {t : Tr h} {c0 c1 c2 c3 c4 : Value} (H : TLies S h w t #[c0, c1, c2, c3, c4]) : ∃ k n v aa la ca ka lk ck, c0 = .int .i64 k ∧ c1 = .string n ∧ c2 = .string v ∧ c3 = .slice aa la ca ∧ c4 = .slice ka lk ck := by
  cases h with
  | zero => exact nomatch t
  | succ h =>
    obtain ⟨aa, ca, ka, ck, H⟩ := H
    have e := H.cells
    simp only [Array.mk.injEq, List.cons.injEq, and_true] at e
    obtain ⟨rfl, rfl, rfl, rfl, rfl⟩ := e
    exact ⟨_, _, _, _, _, _, _, _, _, rfl, rfl, rfl, rfl, rfl⟩
def C5.node (c : C5) : Prop := ∃ k n v aa la ca ka lk ck, c = ⟨.int .i64 k, .string n, .string v, .slice aa la ca, .slice ka lk ck⟩
def C5.kind (c : C5) : Int := match c.c0 with | .int .i64 k => k | _ => 0
theorem C5.node.one {c : C5} (h : c.node) : c.one := by
  obtain ⟨k, n, v, aa, la, ca, ka, lk, ck, rfl⟩ := h
  exact ⟨rfl, rfl, rfl, rfl, rfl⟩
theorem TLies.node {S : Nat → Prop} {h : Nat} {w : World} {t : Tr h} {c : C5} (H : TLies S h w t c.arr) : c.node ∧ c.kind = kindT h t := by
  obtain ⟨c0, c1, c2, c3, c4⟩ := c
  have hk := TLies.kind (show TLies S h w t #[c0, c1, c2, c3, c4] from H)
  obtain ⟨k, n, v, aa, la, ca, ka, lk, ck, rfl, rfl, rfl, rfl, rfl⟩ := TLies.shape (show TLies S h w t #[c0, c1, c2, c3, c4] from H)
  refine ⟨⟨k, n, v, aa, la, ca, ka, lk, ck, rfl⟩, ?_⟩
  show k = kindT h t
  simpa using hk
theorem list_ofE {α : Type} {Q : Nat → α → Prop} : ∀ n : Nat, (∀ i, i < n → ∃ p, Q i p) → ∃ xs : List α, xs.length = n ∧ ∀ j p, xs[j]? = some p → Q j p
  | 0, _ => ⟨[], rfl, fun j p h => by simp at h⟩
  | n + 1, h => by
    obtain ⟨xs, hl, hx⟩ := list_ofE n fun i hi => h i (by omega)
    obtain ⟨p, hp⟩ := h n (by omega)
    refine ⟨xs ++ [p], by simp [hl], fun j q hj => ?_⟩
    rcases Nat.lt_trichotomy j n with h' | h' | h'
    · rw [List.getElem?_append_left (by omega)] at hj
      exact hx j q hj
    · subst h'
      rw [List.getElem?_append_right (by omega), hl] at hj
      simp at hj
      subst hj
      exact hp
    · rw [List.getElem?_eq_none (by simp; omega)] at hj
      cases hj
theorem flat5_of : ∀ (xs : List C5) (j : Nat) (u : Value), (flat5 xs)[j]? = some u → ∃ k x, xs[k]? = some x ∧ ((j = k * 5 ∧ u = x.c0) ∨ (j = k * 5 + 1 ∧ u = x.c1) ∨ (j = k * 5 + 2 ∧ u = x.c2) ∨ (j = k * 5 + 3 ∧ u = x.c3) ∨ (j = k * 5 + 4 ∧ u = x.c4))
  | [], j, u, h => by simp [flat5] at h
  | p :: r, 0, u, h => by
    simp [flat5] at h
    exact ⟨0, p, rfl, .inl ⟨rfl, h.symm⟩⟩
  | p :: r, 1, u, h => by
    simp [flat5] at h
    exact ⟨0, p, rfl, .inr (.inl ⟨rfl, h.symm⟩)⟩
  | p :: r, 2, u, h => by
    simp [flat5] at h
    exact ⟨0, p, rfl, .inr (.inr (.inl ⟨rfl, h.symm⟩))⟩
  | p :: r, 3, u, h => by
    simp [flat5] at h
    exact ⟨0, p, rfl, .inr (.inr (.inr (.inl ⟨rfl, h.symm⟩)))⟩
  | p :: r, 4, u, h => by
    simp [flat5] at h
    exact ⟨0, p, rfl, .inr (.inr (.inr (.inr ⟨rfl, h.symm⟩)))⟩
  | p :: r, j + 5, u, h => by
    obtain ⟨k, x, h1, h2⟩ := flat5_of r j u (by simpa [flat5] using h)
    refine ⟨k + 1, x, by simpa using h1, ?_⟩
    rcases h2 with h | h | h | h | h
    · exact .inl ⟨by omega, h.2⟩
    · exact .inr (.inl ⟨by omega, h.2⟩)
    · exact .inr (.inr (.inl ⟨by omega, h.2⟩))
    · exact .inr (.inr (.inr (.inl ⟨by omega, h.2⟩)))
    · exact .inr (.inr (.inr (.inr ⟨by omega, h.2⟩)))
/-- A row's raw cells. -/
theorem raws_of {h : Nat} {w : World} {a : Option Addr} {ks : List (Tr h)} (hT : TRowT h w a ks) : ∃ vs : List C5, Rep5 h w ks vs ∧ (∀ c ∈ vs, c.node) ∧ (ks = [] ∨ ∃ b o, a = some ⟨b, o, none⟩ ∧ b < w.heap.size ∧ ∀ j u, (flat5 vs)[j]? = some u → w.cell? ⟨b, o + j, none⟩ = some u) := by
  rcases hT with rfl | ⟨b, o, rfl, hb, -, hc⟩
  · exact ⟨[], ⟨rfl, fun j x c hx => by simp at hx⟩, (fun c hc => by cases hc), .inl rfl⟩
  · obtain ⟨vs, hl, hq⟩ := list_ofE (Q := fun i (c : C5) => ∃ x, ks[i]? = some x ∧ TLies All h w x c.arr ∧ w.cell? ⟨b, o + i * 5, none⟩ = some c.c0 ∧ w.cell? ⟨b, o + i * 5 + 1, none⟩ = some c.c1 ∧ w.cell? ⟨b, o + i * 5 + 2, none⟩ = some c.c2 ∧ w.cell? ⟨b, o + i * 5 + 3, none⟩ = some c.c3 ∧ w.cell? ⟨b, o + i * 5 + 4, none⟩ = some c.c4) ks.length fun i hi => by
      obtain ⟨c0, c1, c2, c3, c4, u0, u1, u2, u3, u4, hx⟩ := hc i ks[i] (by simp)
      exact ⟨⟨c0, c1, c2, c3, c4⟩, ks[i], by simp, hx, u0, u1, u2, u3, u4⟩
    refine ⟨vs, ⟨hl, fun j x c hx hc => ?_⟩, fun c hc => ?_, .inr ⟨b, o, rfl, hb, fun j u hu => ?_⟩⟩
    · obtain ⟨x', hx', h1, -⟩ := hq j c hc
      rw [hx] at hx'
      cases hx'
      exact h1
    · obtain ⟨j, hj, rfl⟩ := List.mem_iff_getElem.1 hc
      obtain ⟨x', hx', h1, -⟩ := hq j vs[j] (by simp)
      exact h1.node.1
    · obtain ⟨k, x, h1, h2⟩ := flat5_of vs j u hu
      obtain ⟨-, -, -, y0, y1, y2, y3, y4⟩ := hq k x h1
      rcases h2 with ⟨rfl, rfl⟩ | ⟨rfl, rfl⟩ | ⟨rfl, rfl⟩ | ⟨rfl, rfl⟩ | ⟨rfl, rfl⟩ <;> assumption
def RepS (S : Nat → Prop) (h : Nat) (w : World) (xs : List (Tr h)) (vs : List C5) : Prop := vs.length = xs.length ∧ ∀ (j : Nat) (x : _) (c : C5), xs[j]? = some x → vs[j]? = some c → TLies S h w x c.arr
theorem RepS.go {S T : Nat → Prop} {h : Nat} {w w' : World} {xs : List (Tr h)} {vs : List C5} (H : RepS S h w xs vs) (hk : Kept S w w') (hST : ∀ b, S b → b < w.heap.size → T b) : RepS T h w' xs vs :=
  ⟨H.1, fun j x c hx hc => (H.2 j x c hx hc).go hk hST⟩
theorem RepS.snoc {S : Nat → Prop} {h : Nat} {w : World} {xs : List (Tr h)} {vs : List C5} (H : RepS S h w xs vs) (x : Tr h) (c : C5) (hx : TLies S h w x c.arr) : RepS S h w (xs ++ [x]) (vs ++ [c]) := by
  refine ⟨by simp [H.1], fun j y d hy hd => ?_⟩
  rcases Nat.lt_trichotomy j xs.length with h' | h' | h'
  · rw [List.getElem?_append_left h'] at hy
    rw [List.getElem?_append_left (by rw [H.1]; exact h')] at hd
    exact H.2 j y d hy hd
  · rw [List.getElem?_append_right (by omega), h'] at hy
    rw [List.getElem?_append_right (by rw [H.1]; omega), h', H.1] at hd
    simp at hy hd
    subst hy hd
    exact hx
  · rw [List.getElem?_eq_none (by simp; omega)] at hy
    cases hy
/-- In the call's own memory, apart from a row. -/
theorem flat5_take (L : List C5) (m : Nat) : flat5 (L.take m) = (flat5 L).take (m * 5) := by
  induction L generalizing m with
  | nil => simp [flat5]
  | cons p r ih =>
    cases m with
    | zero => simp [flat5]
    | succ m =>
      rw [List.take_succ_cons]
      show p.c0 :: p.c1 :: p.c2 :: p.c3 :: p.c4 :: flat5 (r.take m) = _
      rw [ih]
      have e : (m + 1) * 5 = m * 5 + 1 + 1 + 1 + 1 + 1 := by omega
      rw [e]
      simp [flat5]
theorem Own5.below {base n : Nat} {w w' : World} {v : Value} {vs : List C5} (h : Own5 base w v vs) (hb : Below n w w') (hv : ∀ g, v.ownBlock = some g → g < n) : Own5 base w' v vs := by
  refine ⟨h.1, ?_⟩
  rcases h.2 with h0 | ⟨g, cap, cur, rfl, h1, h2, h3, h4, h5, h6⟩
  · exact .inl h0
  · exact .inr ⟨g, cap, cur, rfl, h1, (show Blk w' g cur 31 from Blk.below h2 hb (hv g rfl)), h3, h4, h5, h6⟩
theorem Own5.lt {base : Nat} {w : World} {v : Value} {vs : List C5} (h : Own5 base w v vs) : ∀ g, v.ownBlock = some g → g < w.heap.size := by
  intro g hg
  rcases h.2 with ⟨rfl, -⟩ | ⟨g', cap, cur, rfl, h1, h2, -⟩
  · cases hg
  · obtain rfl : g' = g := by simpa [Value.ownBlock] using hg
    exact Blk.lt h2
theorem flat5_drop (L : List C5) (m : Nat) : flat5 (L.drop m) = (flat5 L).drop (m * 5) := by
  induction L generalizing m with
  | nil => simp [flat5]
  | cons p r ih =>
    cases m with
    | zero => simp
    | succ m =>
      rw [List.drop_succ_cons, ih m, show (m + 1) * 5 = m * 5 + 1 + 1 + 1 + 1 + 1 by omega]
      simp [flat5]
/-- Raw cells of trees, somewhere. -/
def Raw5 (w : World) (a : Option Addr) (c : Nat) (vs : List C5) : Prop := (a = none → c = 0 ∧ vs = []) ∧ ∀ ad, a = some ad → ∃ b o, ad = ⟨b, o, none⟩ ∧ ∀ j u, (flat5 vs)[j]? = some u → w.cell? ⟨b, o + j, none⟩ = some u
set_option maxHeartbeats 1000000 in
theorem run_app5 {w : World} (base : Nat) (v : Value) (us : List C5) (hown : Own5 base w v us) (ax : Option Addr) (c : Nat) (vs : List C5) (hA : Raw5 w ax c vs) (hone1 : ∀ p ∈ vs, p.one) (hl : us.length + vs.length ≤ 1000000000) (hb : base ≤ w.heap.size) (ty : TypeId) :
    ∃ v' w', (Builtin.append_ #[22, 22] ty #[v, .slice ax vs.length c]).run Try.prog w = .ok v' w' ∧ Own5 base w' v' (us ++ vs) ∧ w.grownBy w' v.ownBlock ∧ ∀ g, v'.ownBlock = some g → v.ownBlock = some g ∨ w.heap.size ≤ g := by
  obtain ⟨i0, hi, hz0, hz1, hz2⟩ := info_parts infoT
  cases ax with
  | none =>
    obtain ⟨rfl, rfl⟩ := hA.1 rfl
    have hrun := run_append_owned_none (P := Try.prog) (w := w) base 22 ty 31 i0 5 Try.underlying22 hi v us.length (flat5 us) hown
    exact ⟨v, w, hrun, by rw [List.append_nil]; exact hown, World.grownBy.refl _ _, fun g hg => .inl hg⟩
  | some ad =>
    obtain ⟨b, o, rfl, hc⟩ := hA.2 ad rfl
    have hnews : ∀ (j : Nat) (u : Value), (flat5 vs)[j]? = some u → w.cell? ((⟨b, o, none⟩ : Addr).add j) = some u := fun j u hj => by
      rw [Addr.add_lit]
      exact hc j u hj
    have hone : ∀ u ∈ flat5 vs, u.oneCell' = true := fun u hu => by
      obtain ⟨j, hj⟩ := List.getElem?_of_mem hu
      obtain ⟨k, x, hx, h9⟩ := flat5_of vs j u hj
      obtain ⟨y0, y1, y2, y3, y4⟩ := hone1 x (List.mem_of_getElem? hx)
      rcases h9 with ⟨-, rfl⟩ | ⟨-, rfl⟩ | ⟨-, rfl⟩ | ⟨-, rfl⟩ | ⟨-, rfl⟩ <;> assumption
    obtain ⟨v', w', hr, h1, h2, -⟩ := run_append_own (P := Try.prog) (w := w) base 22 ty 31 i0 (.agg #[.int .i64 0, .string .empty, .string .empty, .slice none 0 0, .slice none 0 0]) 5 88 Try.underlying22 hi hz0 hz1 hz2 rfl (by decide) v us.length (flat5 us) hown ⟨b, o, none⟩ vs.length c (flat5 vs) (flat5_len vs) hnews hone (by unfold maxLen; omega) (by omega) hb
    refine ⟨v', w', hr, by unfold Own5; rw [flat5_app, List.length_append]; exact h1, h2, ?_⟩
    intro g hg
    have hfresh : ∀ (u : Value) (w2 : World) (n : Nat) (xs : List Value), w2.ownsRow w.heap.size 31 5 u n xs → ∀ g, u.ownBlock = some g → w.heap.size ≤ g := by
      intro u w2 n xs hu g hg
      rcases hu.2 with ⟨rfl, -⟩ | ⟨g', cap, cur, rfl, h1, -⟩
      · cases hg
      · obtain rfl : g' = g := by simpa [Value.ownBlock] using hg
        exact h1
    rcases hown.2 with ⟨rfl, h0⟩ | ⟨g0, cap, cur, rfl, e1, e2, e3, e4, e5, e6⟩
    · have hvs : us = [] := List.length_eq_zero_iff.1 h0
      subst hvs
      obtain ⟨v2, w2, hr2, k1, -, -⟩ := run_append_own (P := Try.prog) (w := w) w.heap.size 22 ty 31 i0 (.agg #[.int .i64 0, .string .empty, .string .empty, .slice none 0 0, .slice none 0 0]) 5 88 Try.underlying22 hi hz0 hz1 hz2 rfl (by decide) (.slice none 0 0) 0 [] (World.ownsRow_nil w _ _ 5) ⟨b, o, none⟩ vs.length c (flat5 vs) (flat5_len vs) hnews hone (by unfold maxLen; omega) (by omega) (Nat.le_refl _)
      rw [hr] at hr2
      cases hr2
      exact .inr (hfresh _ _ _ _ k1 g hg)
    · have eB : Blk w g0 cur 31 := e2
      by_cases hroom : us.length + vs.length ≤ cap
      · have hsz : cur.size = cap * 5 := e5
        have e7 : i0.size = 5 := hz1
        have hrun := run_append_room_cells (P := Try.prog) w 22 ty 31 i0 Try.underlying22 hi g0 0 us.length cap ⟨b, o, none⟩ vs.length c (flat5 vs) (by rw [e7]; exact flat5_len vs) hnews hone hroom
          (fun j hj => by
            rw [e7, eB.cell]
            have : 0 + us.length * 5 + j < cur.size := by rw [flat5_len] at hj; omega
            simp only [Array.getElem?_eq_getElem this, Option.isSome_some])
          (fun j hj => eB.free _)
        rw [hr] at hrun
        cases hrun
        exact .inl hg
      · by_cases hv0 : vs = []
        · subst hv0; exact absurd e3 (by simp at hroom; omega)
        have hvl : 1 ≤ vs.length := by cases vs with | nil => exact absurd rfl hv0 | cons _ _ => simp
        have hrun := run_append_arg_grows (P := Try.prog) w 22 ty 31 i0 (.agg #[.int .i64 0, .string .empty, .string .empty, .slice none 0 0, .slice none 0 0]) 5 88 Try.underlying22 hi hz0 hz1 hz2 rfl (by decide) ⟨g0, 0, none⟩ us.length cap (flat5 us) (flat5_len us)
          (fun j u hj => by
            rw [Addr.add_lit, Nat.zero_add, eB.cell j]
            rw [← e6, List.getElem?_take] at hj
            split at hj
            · simpa using hj
            · cases hj)
          ⟨b, o, none⟩ vs.length c (flat5 vs) (flat5_len vs) hnews (by omega) (by unfold maxLen; omega) (by omega)
        obtain ⟨v2, w2, hr2, k1, -⟩ := hrun
        rw [hr] at hr2
        cases hr2
        exact .inr (hfresh _ _ _ _ k1 g hg)
/-- 'append' as a step. -/
theorem step_app5 {ops : Array Oper} {o : Oper} {act : Act} {w : World} {K : Act → World → Prop} {Q : Exit → Act → World → Prop} {E : Prop} (hg : o.guard = none) (s x : Operand)
    (ho : o.op = .call { callee := .builtin .append, args := #[s, x], argTypes := #[22, 22] }) (base : Nat) (v : Value) (us : List C5) (hs : act.eval s = v) (hown : Own5 base w v us)
    (ax : Option Addr) (n c : Nat) (vs : List C5) (hx : act.eval x = .slice ax n c) (hn : vs.length = n) (hA : Raw5 w ax c vs) (hone1 : ∀ p ∈ vs, p.one) (hl : us.length + vs.length ≤ 1000000000) (hb : base ≤ w.heap.size)
    (hK : ∀ v' w', Own5 base w' v' (us ++ vs) → w.grownBy w' v.ownBlock → (∀ g, v'.ownBlock = some g → v.ownBlock = some g ∨ w.heap.size ≤ g) → K (act.put o.dst v') w') :
    if Region.wanted o (yielded ops act.tmps) = true then Oper.wp Try.prog o act w K Q else E := by
  have hw : Region.wanted o (yielded ops act.tmps) = true := by simp [Region.wanted, hg]
  rw [if_pos hw]
  subst hn
  obtain ⟨v', w', hr, h1, h2, h3⟩ := run_app5 base v us hown ax c vs hA hone1 hl hb o.type
  unfold Oper.wp
  simp [execOp, ho, resolve, invoke, builtin, hs, hx, hr, Result.andThen]
  exact hK v' w' h1 h2 h3
end Go.Proofs.Ytgdbbocfiejlfaa

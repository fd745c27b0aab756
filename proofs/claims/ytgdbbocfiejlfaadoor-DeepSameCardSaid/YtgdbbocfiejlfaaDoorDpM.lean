/- slices.Clone of a row of trees; the program's test for comments; slices.IndexFunc. -/
import Derived.Test.YtgdbbocfiejlfaaDoorDpL
import Derived.Test.YtgdbbocfiejlfaaDoorDpH
import Derived.Lib.SliceRun
set_option linter.unusedSimpArgs false
set_option linter.unusedVariables false
set_option linter.constructorNameAsVariable false
namespace Go.Proofs.YtgdbbocfiejlfaaDoor
open Go.RowKit

/-- A node's five cells. -/
def C5.node (c : C5) : Prop := ∃ k n v aa la ca ka lk ck, c = ⟨.int .i64 k, .string n, .string v, .slice aa la ca, .slice ka lk ck⟩
def C5.kind (c : C5) : Int := match c.c0 with | .int .i64 k => k | _ => 0
theorem C5.node.one {c : C5} (h : c.node) : c.one := by
  obtain ⟨k, n, v, aa, la, ca, ka, lk, ck, rfl⟩ := h
  exact ⟨rfl, rfl, rfl, rfl, rfl⟩
theorem TLies.node {S : Nat → Prop} {h : Nat} {w : World} {t : Tr h} {c : C5} (H : TLies S h w t c.arr) : c.node ∧ c.kind = kindT h t := by
  obtain ⟨c0, c1, c2, c3, c4⟩ := c
  have hk := TLies.kind (show TLies S h w t #[c0, c1, c2, c3, c4] from H)
  obtain ⟨k, n, v, aa, la, ca, ka, lk, ck, rfl, rfl, rfl, rfl, rfl⟩ := TLies.shape (show TLies S h w t #[c0, c1, c2, c3, c4] from H)
  refine ⟨⟨k, n, v, aa, la, ca, ka, lk, ck, rfl⟩, ?_⟩
  show k = kindT h t
  simpa using hk
theorem list_ofE {α : Type} {Q : Nat → α → Prop} : ∀ n : Nat, (∀ i, i < n → ∃ p, Q i p) → ∃ xs : List α, xs.length = n ∧ ∀ j p, xs[j]? = some p → Q j p
  | 0, _ => ⟨[], rfl, fun j p h => by simp at h⟩
  | n + 1, h => by
    obtain ⟨xs, hl, hx⟩ := list_ofE n fun i hi => h i (by omega)
    obtain ⟨p, hp⟩ := h n (by omega)
    refine ⟨xs ++ [p], by simp [hl], fun j q hj => ?_⟩
    rcases Nat.lt_trichotomy j n with h' | h' | h'
    · rw [List.getElem?_append_left (by omega)] at hj
      exact hx j q hj
    · subst h'
      rw [List.getElem?_append_right (by omega), hl] at hj
      simp at hj
      subst hj
      exact hp
    · rw [List.getElem?_eq_none (by simp; omega)] at hj
      cases hj
theorem flat5_of : ∀ (xs : List C5) (j : Nat) (u : Value), (flat5 xs)[j]? = some u → ∃ k x, xs[k]? = some x ∧ ((j = k * 5 ∧ u = x.c0) ∨ (j = k * 5 + 1 ∧ u = x.c1) ∨ (j = k * 5 + 2 ∧ u = x.c2) ∨ (j = k * 5 + 3 ∧ u = x.c3) ∨ (j = k * 5 + 4 ∧ u = x.c4))
  | [], j, u, h => by simp [flat5] at h
  | p :: r, 0, u, h => by
    simp [flat5] at h
    exact ⟨0, p, rfl, .inl ⟨rfl, h.symm⟩⟩
  | p :: r, 1, u, h => by
    simp [flat5] at h
    exact ⟨0, p, rfl, .inr (.inl ⟨rfl, h.symm⟩)⟩
  | p :: r, 2, u, h => by
    simp [flat5] at h
    exact ⟨0, p, rfl, .inr (.inr (.inl ⟨rfl, h.symm⟩))⟩
  | p :: r, 3, u, h => by
    simp [flat5] at h
    exact ⟨0, p, rfl, .inr (.inr (.inr (.inl ⟨rfl, h.symm⟩)))⟩
  | p :: r, 4, u, h => by
    simp [flat5] at h
    exact ⟨0, p, rfl, .inr (.inr (.inr (.inr ⟨rfl, h.symm⟩)))⟩
  | p :: r, j + 5, u, h => by
    obtain ⟨k, x, h1, h2⟩ := flat5_of r j u (by simpa [flat5] using h)
    refine ⟨k + 1, x, by simpa using h1, ?_⟩
    rcases h2 with h | h | h | h | h
    · exact .inl ⟨by omega, h.2⟩
    · exact .inr (.inl ⟨by omega, h.2⟩)
    · exact .inr (.inr (.inl ⟨by omega, h.2⟩))
    · exact .inr (.inr (.inr (.inl ⟨by omega, h.2⟩)))
    · exact .inr (.inr (.inr (.inr ⟨by omega, h.2⟩)))
/-- A row's raw cells. -/
theorem raws_of {h : Nat} {w : World} {a : Option Addr} {ks : List (Tr h)} (hT : TRowT h w a ks) : ∃ vs : List C5, Rep5 h w ks vs ∧ (∀ c ∈ vs, c.node) ∧ (ks = [] ∨ ∃ b o, a = some ⟨b, o, none⟩ ∧ b < w.heap.size ∧ ∀ j u, (flat5 vs)[j]? = some u → w.cell? ⟨b, o + j, none⟩ = some u) := by
  rcases hT with rfl | ⟨b, o, rfl, hb, -, hc⟩
  · exact ⟨[], ⟨rfl, fun j x c hx => by simp at hx⟩, (fun c hc => by cases hc), .inl rfl⟩
  · obtain ⟨vs, hl, hq⟩ := list_ofE (Q := fun i (c : C5) => ∃ x, ks[i]? = some x ∧ TLies All h w x c.arr ∧ w.cell? ⟨b, o + i * 5, none⟩ = some c.c0 ∧ w.cell? ⟨b, o + i * 5 + 1, none⟩ = some c.c1 ∧ w.cell? ⟨b, o + i * 5 + 2, none⟩ = some c.c2 ∧ w.cell? ⟨b, o + i * 5 + 3, none⟩ = some c.c3 ∧ w.cell? ⟨b, o + i * 5 + 4, none⟩ = some c.c4) ks.length fun i hi => by
      obtain ⟨c0, c1, c2, c3, c4, u0, u1, u2, u3, u4, hx⟩ := hc i ks[i] (by simp)
      exact ⟨⟨c0, c1, c2, c3, c4⟩, ks[i], by simp, hx, u0, u1, u2, u3, u4⟩
    refine ⟨vs, ⟨hl, fun j x c hx hc => ?_⟩, fun c hc => ?_, .inr ⟨b, o, rfl, hb, fun j u hu => ?_⟩⟩
    · obtain ⟨x', hx', h1, -⟩ := hq j c hc
      rw [hx] at hx'
      cases hx'
      exact h1
    · obtain ⟨j, hj, rfl⟩ := List.mem_iff_getElem.1 hc
      obtain ⟨x', hx', h1, -⟩ := hq j vs[j] (by simp)
      exact h1.node.1
    · obtain ⟨k, x, h1, h2⟩ := flat5_of vs j u hu
      obtain ⟨-, -, -, y0, y1, y2, y3, y4⟩ := hq k x h1
      rcases h2 with ⟨rfl, rfl⟩ | ⟨rfl, rfl⟩ | ⟨rfl, rfl⟩ | ⟨rfl, rfl⟩ | ⟨rfl, rfl⟩ <;> assumption
theorem eql_nil (a : Option Addr) (n c n' c' : Nat) (w : World) : (binOp .eql 24 (.slice a n c) (.slice none n' c')).run Tryd.prog w = .ok (.bool a.isNone) w := Lib.run_eql_slice_nil w _ _ a n c n' c' Tryd.underlying24
set_option maxRecDepth 100000 in
theorem clone_any (h : Nat) (a : Option Addr) (c : Nat) (ks : List (Tr h)) (w : World) (hT : TRowT h w a ks) (hn : a = none → c = 0) (hl : ks.length ≤ 1000000) :
    Calls Tryd.prog 30 #[.slice a ks.length c] w fun e w' => (∃ v vs, e = .returned v ∧ Own5 w.heap.size w' v vs ∧ Rep5 h w ks vs ∧ ∀ c ∈ vs, c.node) ∧ Below w.heap.size w w' := by
  obtain ⟨vs, hR, hN, hc⟩ := raws_of hT
  have HR := Lib.hid (And.intro hR hN)
  have hvl := hR.1
  cases a with
  | none =>
    obtain rfl := hn rfl
    have hk : ks = [] := by
      rcases hc with h | ⟨b, o, e, -⟩
      · exact h
      · cases e
    subst hk
    have hv0 : vs = [] := List.length_eq_zero_iff.1 hvl
    subst hv0
    clear hR hN hc hT
    have q22 := fun w => eql_nil none 0 0 0 0 w
    simp only [Option.isNone_none] at q22
    go_enter Tryd.func30, Tryd.ntmps30
    go_wp2_with fail
    go_returns
    exact ⟨⟨_, rfl, [], Own5.nil _ _, HR.out.1, HR.out.2⟩, Below.refl _ _⟩
  | some ad =>
    obtain ⟨i0, hi, hz0, hz1, hz2⟩ := info_parts infoT
    have hcell : ∀ j u, (flat5 vs)[j]? = some u → w.cell? (ad.add j) = some u := fun j u hu => by
      rcases hc with rfl | ⟨b, o, e, hb, hc⟩
      · have hv0 : vs = [] := List.length_eq_zero_iff.1 hvl
        subst hv0
        simp [flat5] at hu
      · cases e
        rw [Addr.add_lit]
        exact hc j u hu
    have hone : ∀ u ∈ flat5 vs, u.oneCell' = true := fun u hu => by
      obtain ⟨j, hj, rfl⟩ := List.mem_iff_getElem.1 hu
      obtain ⟨k, x, h1, h2⟩ := flat5_of vs j _ (List.getElem?_eq_getElem hj)
      obtain ⟨o0, o1, o2, o3, o4⟩ := (hN x (List.mem_of_getElem? h1)).one
      rcases h2 with ⟨-, e⟩ | ⟨-, e⟩ | ⟨-, e⟩ | ⟨-, e⟩ | ⟨-, e⟩ <;> rw [e] <;> assumption
    have hlen : (flat5 vs).length = ks.length * 5 := by rw [flat5_len, hvl]
    have hcell2 : ∀ j u, (flat5 vs)[j]? = some u → (w.alloc (.cells #[] 26)).cell? (ad.add j) = some u := fun j u hj => by
      have h0 := hcell j u hj
      have hlt := (World.block_lt_of_cell? w _ h0)
      have hbb : Below w.heap.size w (w.alloc (.cells #[] 26)) := (Below.refl _ _).alloc (Nat.le_refl _) _
      exact (World.cell?_of_block (hbb.block _ hlt)).trans h0
    have HC := Lib.hid hcell2
    have HO := Lib.hid hone
    have HL := Lib.hid hlen
    have q22 := fun w => eql_nil (some ad) ks.length c 0 0 w
    simp only [Option.isNone_some] at q22
    clear hR hN hc hT hcell hcell2 hone hlen
    go_enter Tryd.func30, Tryd.ntmps30
    go_wp2_with (at_builtin; refine wpList_append_own _ rfl _ _ 24 rfl w.heap.size 26 i0 (.agg #[.int .i64 0, .string .empty, .string .empty, .slice none 0 0, .slice none 0 0]) 5 88 Tryd.underlying24 hi hz0 hz1 hz2 rfl (by decide) _ 0 [] rfl ⟨rfl, .inr ⟨w.heap.size, 0, #[], rfl, Nat.le_refl _, Blk.new _ _ _, Nat.le_refl _, by unfold maxLen; omega, rfl, rfl⟩⟩ ad ks.length c (flat5 vs) rfl HL.out HC.out HO.out (by unfold maxLen; omega) (by omega) (by simp) ?_)
    intro v' w' h1 h2 h3
    have hO : Own5 w.heap.size w' v' vs := by
      unfold Own5
      rw [hvl]
      simpa using h1
    have hb : Below w.heap.size w w' := ((Below.refl w.heap.size w).alloc (Nat.le_refl _) _).grown h2 (by simp) (fun k hk => by simp [Value.ownBlock] at hk; omega)
    clear h1 h2 h3
    go_wp2_with fail
    go_returns
    exact ⟨⟨v', vs, rfl, hO, HR.out.1, HR.out.2⟩, hb⟩
set_option maxRecDepth 100000 in
theorem del_any (c : C5) (hN : c.node) (w : World) : Calls Tryd.prog 31 #[.agg c.arr] w fun e w' => e = .returned (.bool (c.kind == 5)) ∧ Below w.heap.size w w' := by
  obtain ⟨k, n, v, aa, la, ca, ka, lk, ck, rfl⟩ := hN
  show Calls Tryd.prog 31 #[.agg #[.int .i64 k, .string n, .string v, .slice aa la ca, .slice ka lk ck]] w fun e w' => e = .returned (.bool (k == 5)) ∧ Below w.heap.size w w'
  go_enter Tryd.func31, Tryd.ntmps31
  go_wp2_with fail
  go_returns
  exact ⟨rfl, by go_grown⟩
end Go.Proofs.YtgdbbocfiejlfaaDoor

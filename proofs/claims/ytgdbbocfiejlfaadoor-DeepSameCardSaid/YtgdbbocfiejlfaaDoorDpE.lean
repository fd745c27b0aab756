/- Own rows of things of five cells; the document's plain. -/
import Derived.Test.YtgdbbocfiejlfaaDoorDpD
import Derived.Laws.AppendOwnNone
set_option linter.unusedSimpArgs false
set_option linter.unusedVariables false
set_option linter.constructorNameAsVariable false
namespace Go.Proofs.YtgdbbocfiejlfaaDoor
open Go.RowKit

/-- Five cells. -/
structure C5 where
  c0 : Value
  c1 : Value
  c2 : Value
  c3 : Value
  c4 : Value
def C5.arr (x : C5) : Array Value := #[x.c0, x.c1, x.c2, x.c3, x.c4]
def C5.one (x : C5) : Prop := x.c0.oneCell' = true ∧ x.c1.oneCell' = true ∧ x.c2.oneCell' = true ∧ x.c3.oneCell' = true ∧ x.c4.oneCell' = true
def flat5 : List C5 → List Value
  | [] => []
  | p :: r => p.c0 :: p.c1 :: p.c2 :: p.c3 :: p.c4 :: flat5 r
theorem flat5_len (xs : List C5) : (flat5 xs).length = xs.length * 5 := by
  induction xs with
  | nil => rfl
  | cons p r ih => simp only [flat5, List.length_cons, ih]; omega
theorem flat5_app (xs ys : List C5) : flat5 (xs ++ ys) = flat5 xs ++ flat5 ys := by
  induction xs with
  | nil => rfl
  | cons p r ih => simp only [flat5, List.cons_append, ih]
theorem flat5_at : ∀ (xs : List C5) (k : Nat) (x : C5), xs[k]? = some x → (flat5 xs)[k * 5]? = some x.c0 ∧ (flat5 xs)[k * 5 + 1]? = some x.c1 ∧ (flat5 xs)[k * 5 + 2]? = some x.c2 ∧ (flat5 xs)[k * 5 + 3]? = some x.c3 ∧ (flat5 xs)[k * 5 + 4]? = some x.c4
  | [], k, x, h => by simp at h
  | p :: r, 0, x, h => by
    simp at h
    subst h
    exact ⟨rfl, rfl, rfl, rfl, rfl⟩
  | p :: r, k + 1, x, h => by
    have := flat5_at r k x (by simpa using h)
    rw [show (k + 1) * 5 = k * 5 + 1 + 1 + 1 + 1 + 1 by omega]
    simpa [flat5] using this
theorem infoT : (Tryd.prog.info? 26).map (fun i => (i.zero, i.size, i.bytes)) = some (some (.agg #[.int .i64 0, .string .empty, .string .empty, .slice none 0 0, .slice none 0 0]), 5, 88) := by kernel_rfl
/-- An own row that holds these. -/
def Own5 (base : Nat) (w : World) (v : Value) (vs : List C5) : Prop := w.ownsRow base 26 5 v vs.length (flat5 vs)
theorem Own5.nil (base : Nat) (w : World) : Own5 base w (.slice none 0 0) [] := World.ownsRow_nil w base _ 5
/-- The own row, read. -/
theorem own5_read {α : Type} {w : World} {base : Nat} {v : Value} {vs : List C5} (h : Own5 base w v vs) (xs : List α) (R : α → Array Value → Prop) (hl : vs.length = xs.length) (hR : ∀ (j : Nat) (x : _) (c : C5), xs[j]? = some x → vs[j]? = some c → R x c.arr) :
    ∃ a c, v = .slice a xs.length c ∧ KRow (fun b => base ≤ b) R w a xs ∧ (a = none → c = 0) := by
  obtain ⟨_, h⟩ := h
  rcases h with ⟨rfl, h0⟩ | ⟨g, cap, cur, rfl, h1, h2, h3, h4, h5, h6⟩
  · have e : vs = [] := by
      cases vs with
      | nil => rfl
      | cons p r => simp [flat5] at h0
    subst e
    have e2 : xs = [] := List.length_eq_zero_iff.1 hl.symm
    subst e2
    exact ⟨none, 0, rfl, .inl rfl, fun _ => rfl⟩
  · have hB : Blk w g cur 26 := h2
    have hc : ∀ i x, (flat5 vs)[i]? = some x → w.cell? ⟨g, i, none⟩ = some x := fun i x hx => by
      rw [hB.cell i]
      rw [← h6, List.getElem?_take] at hx
      split at hx
      · simpa using hx
      · cases hx
    refine ⟨some ⟨g, 0, none⟩, cap, by rw [hl], .inr ⟨g, 0, rfl, hB.lt, h1, fun j x hj => ?_⟩, fun h => by cases h⟩
    obtain ⟨c, hjc⟩ : ∃ c, vs[j]? = some c := by
      have : j < vs.length := by
        rw [hl]
        rcases Nat.lt_or_ge j xs.length with h' | h'
        · exact h'
        · simp [List.getElem?_eq_none h'] at hj
      exact ⟨vs[j], by simp [this]⟩
    obtain ⟨y0, y1, y2, y3, y4⟩ := flat5_at vs j c hjc
    simp only [Nat.zero_add]
    exact ⟨_, _, _, _, _, hc _ _ y0, hc _ _ y1, hc _ _ y2, hc _ _ y3, hc _ _ y4, hR j x c hj hjc⟩
theorem Own5.grown {w w' : World} {base n : Nat} {v : Value} {vs : List C5} (h : Own5 base w v vs) (hg : w.grownBy w' v.ownBlock) (hn : n ≤ base) (hb : n ≤ w.heap.size) : Below n w w' :=
  (Below.refl n w).grown hg hb fun k hk => by
    rcases h.2 with ⟨rfl, _⟩ | ⟨g, cap, cur, rfl, h1, _⟩
    · simp [Value.ownBlock] at hk
    · simp [Value.ownBlock] at hk; omega
/-- 'append(own, one)'. -/
theorem wpList_app5 {ops : Array Oper} {rest : List Oper} {o : Oper} {act : Act} {Q : Exit → Act → World → Prop} {w : World} (hgd : o.guard = none) (s x : Operand)
    (ho : o.op = .call { callee := .builtin .append, args := #[s, x], argTypes := #[24, 24] }) (base : Nat) (v : Value) (vs : List C5) (hs : act.eval s = v) (hown : Own5 base w v vs)
    (q c : Nat) (p : C5) (hx : act.eval x = .slice (some ⟨q, 0, none⟩) 1 c) (hp : p.one) (hB : Blk w q p.arr 26) (hl : vs.length + 1 ≤ 1000000000) (hb : base ≤ w.heap.size)
    (h : ∀ v' w', Own5 base w' v' (vs ++ [p]) → w.grownBy w' v.ownBlock → wpList Tryd.prog ops Q rest (act.put o.dst v') w') : wpList Tryd.prog ops Q (o :: rest) act w := by
  obtain ⟨i0, hi, hz0, hz1, hz2⟩ := info_parts infoT
  obtain ⟨o0, o1, o2, o3, o4⟩ := hp
  refine wpList_append_own w hgd s x 24 ho base 26 i0 (.agg #[.int .i64 0, .string .empty, .string .empty, .slice none 0 0, .slice none 0 0]) 5 88 Tryd.underlying24 hi hz0 hz1 hz2 rfl (by decide) v vs.length (flat5 vs) hs hown ⟨q, 0, none⟩ 1 c [p.c0, p.c1, p.c2, p.c3, p.c4] hx rfl (fun j u hj => ?_) (fun u hu => ?_) (by unfold maxLen; omega) (by omega) hb (fun v' w' h1 h2 _ => ?_)
  · rw [Addr.add_lit, Nat.zero_add, hB.cell j]
    simpa [C5.arr] using hj
  · simp only [List.mem_cons, List.not_mem_nil, or_false] at hu
    rcases hu with rfl | rfl | rfl | rfl | rfl <;> assumption
  · refine h v' w' ?_ h2
    unfold Own5
    rw [flat5_app, List.length_append]
    exact h1
theorem TLies.one {S : Nat → Prop} {h : Nat} {w : World} {t : Tr h} {c0 c1 c2 c3 c4 : Value} (H : TLies S h w t #[c0, c1, c2, c3, c4]) : C5.one ⟨c0, c1, c2, c3, c4⟩ := by
  cases h with
  | zero => exact nomatch t
  | succ h =>
    obtain ⟨aa, ca, ka, ck, H⟩ := H
    have e := H.cells
    simp only [Array.mk.injEq, List.cons.injEq, and_true] at e
    obtain ⟨rfl, rfl, rfl, rfl, rfl⟩ := e
    exact ⟨rfl, rfl, rfl, rfl, rfl⟩
theorem TLies.kind {S : Nat → Prop} {h : Nat} {w : World} {t : Tr h} {c0 c1 c2 c3 c4 : Value} (H : TLies S h w t #[c0, c1, c2, c3, c4]) : c0 = .int .i64 (kindT h t) := by
  cases h with
  | zero => exact nomatch t
  | succ h =>
    obtain ⟨aa, ca, ka, ck, H⟩ := H
    have e := H.cells
    simp only [Array.mk.injEq, List.cons.injEq, and_true] at e
    exact e.1
theorem plain_take (h : Nat) (ks : List (Tr h)) (j : Nat) (x : Tr h) (hj : ks[j]? = some x) : plainT h (ks.take (j + 1)) = plainT h (ks.take j) ++ (if kindT h x != 5 then [x] else []) := by
  unfold plainT
  rw [take_one ks j x hj, List.filter_append, List.filter_cons, List.filter_nil]
theorem plain_le (h : Nat) (ks : List (Tr h)) : (plainT h ks).length ≤ ks.length := List.length_filter_le _ _
/-- What lies in an own row. -/
def Rep5 (h : Nat) (w : World) (xs : List (Tr h)) (vs : List C5) : Prop := vs.length = xs.length ∧ ∀ (j : Nat) (x : _) (c : C5), xs[j]? = some x → vs[j]? = some c → TLies All h w x c.arr
theorem Rep5.snoc {h : Nat} {w : World} {xs : List (Tr h)} {vs : List C5} (H : Rep5 h w xs vs) (x : Tr h) (c : C5) (hx : TLies All h w x c.arr) : Rep5 h w (xs ++ [x]) (vs ++ [c]) := by
  refine ⟨by simp [H.1], fun j y d hy hd => ?_⟩
  rcases Nat.lt_trichotomy j xs.length with h' | h' | h'
  · rw [List.getElem?_append_left h'] at hy
    rw [List.getElem?_append_left (by rw [H.1]; exact h')] at hd
    exact H.2 j y d hy hd
  · rw [List.getElem?_append_right (by omega), h'] at hy
    rw [List.getElem?_append_right (by rw [H.1]; omega), h', H.1] at hd
    simp at hy hd
    subst hy hd
    exact hx
  · rw [List.getElem?_eq_none (by simp; omega)] at hy
    cases hy
set_option maxRecDepth 100000 in
set_option maxHeartbeats 2000000 in
theorem rplain_any (h : Nat) (a : Option Addr) (c : Nat) (ks : List (Tr h)) (w : World) (hT : TRowT h w a ks) (hl : ks.length ≤ 1000000) :
    Calls Tryd.prog 19 #[.slice a ks.length c] w fun e w' => (∃ a' c', e = .returned (.slice a' (plainT h ks).length c') ∧ TRowT h w' a' (plainT h ks) ∧ (a' = none → c' = 0)) ∧ Below w.heap.size w w' := by
  have HK := Lib.hid hT
  clear hT
  go_enter Tryd.func19, Tryd.ntmps19
  go_wp2_with fail
  go_loopg [3, 4] (ks.length + 1) (fun m vv ii wr => ∃ (j : Nat) (vs : List C5), j ≤ ks.length ∧ m + j = ks.length + 1 ∧ ii = .int .i64 (j : Int) ∧ Own5 w.heap.size wr vv vs ∧ Below w.heap.size w wr ∧ Hid (Rep5 h w (plainT h (ks.take j)) vs))
  case atStart => exact ⟨0, [], by omega, by omega, rfl, Own5.nil _ _, Below.refl _ _, ⟨rfl, fun j x c hx => by simp [plainT] at hx⟩⟩
  case round =>
    obtain ⟨j, vs, hj, hmj, rfl, hO, hwr, HD⟩ := hrel
    have hj0 : (0 : Int) ≤ (j : Int) := Int.natCast_nonneg _
    by_cases hlt : j < ks.length
    · have i0 : decide ((j : Int) < (ks.length : Int)) = true := by simp; omega
      obtain ⟨x, hjx⟩ : ∃ x, ks[j]? = some x := ⟨ks[j], by simp [hlt]⟩
      have hpt := plain_take h ks j x hjx
      have hvl : vs.length ≤ j := by
        rw [HD.out.1]
        refine Nat.le_trans (plain_le h _) ?_
        simp; omega
      rcases HK.out with h0 | ⟨b, o, rfl, hb, -, hc⟩
      · rw [h0] at hlt; simp at hlt
      obtain ⟨c0, c1, c2, c3, c4, u0, u1, u2, u3, u4, hx⟩ := hc j x hjx
      have hk := hx.kind
      subst hk
      have h1 := hx.one
      replace u0 := (hwr.cell (p := ⟨b, o + j * 5, none⟩) hb).trans u0
      replace u1 := (hwr.cell (p := ⟨b, o + j * 5 + 1, none⟩) hb).trans u1
      replace u2 := (hwr.cell (p := ⟨b, o + j * 5 + 2, none⟩) hb).trans u2
      replace u3 := (hwr.cell (p := ⟨b, o + j * 5 + 3, none⟩) hb).trans u3
      replace u4 := (hwr.cell (p := ⟨b, o + j * 5 + 4, none⟩) hb).trans u4
      have lb := Nat.lt_of_lt_of_le hb hwr.size
      cases ek : (kindT h x != 5)
      · rw [ek] at hpt
        have HS : Hid (Rep5 h w (plainT h (ks.take (j + 1))) vs) := by
          unfold Hid
          rw [hpt]
          simp only [Bool.false_eq_true, if_false, List.append_nil]
          exact HD.out
        clear hc hjx HD hpt hx
        generalize kindT h x = kk at *
        go_wp2_with fail
        go_roundg (gk - 1)
        case measure => omega
        case rel => exact ⟨j + 1, vs, by omega, by omega, by go_num, hO, hwr, HS⟩
      · rw [ek] at hpt
        have HS : Hid (Rep5 h w (plainT h (ks.take (j + 1))) (vs ++ [⟨.int .i64 (kindT h x), c1, c2, c3, c4⟩])) := by
          unfold Hid
          rw [hpt]
          simp only [if_true]
          exact HD.out.snoc x _ hx
        have HO := Lib.hid hO
        clear hc hjx HD hpt hx hO
        generalize kindT h x = kk at *
        go_wp2_with (at_builtin; refine wpList_app5 rfl _ _ rfl w.heap.size _ vs rfl (World.ownsRow.alloc HO.out _) wr.heap.size _ ⟨.int .i64 kk, c1, c2, c3, c4⟩ rfl h1 (Blk.new _ _ _) (by omega) (by have := hwr.size; simp; omega) ?_)
        intro v' w5 hO5 hg5
        have hw5 : Below w.heap.size w w5 := (hwr.alloc hwr.size _).trans (Own5.grown (World.ownsRow.alloc HO.out _) hg5 (Nat.le_refl _) (by have := hwr.size; simp; omega))
        go_wp2_with fail
        go_roundg (gk - 1)
        case measure => omega
        case rel => exact ⟨j + 1, _, by omega, by omega, by go_num, hO5, hw5, HS⟩
    · have i0 : decide ((j : Int) < (ks.length : Int)) = false := by simp; omega
      have hd := HD.out
      rw [List.take_of_length_le (by omega)] at hd
      obtain ⟨a', c', rfl, hK, hn⟩ := own5_read hO (plainT h ks) (TLies All h w) hd.1 (fun i x c hx hc => hd.2 i x c hx hc)
      clear HD hO
      go_wp2_with fail
      go_returns
      exact ⟨⟨a', c', rfl, hK.on (kept_of (Below.refl _ _)) (fun _ _ _ => trivial) (fun x cs hx => hx.on hwr), hn⟩, hwr⟩
end Go.Proofs.YtgdbbocfiejlfaaDoor

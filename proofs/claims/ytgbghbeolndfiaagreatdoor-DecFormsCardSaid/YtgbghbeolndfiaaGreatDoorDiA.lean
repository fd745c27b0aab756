/- Rows of ints that the call itself has made. -/
import Derived.Test.YtgbghbeolndfiaaGreatDoorBox
import Derived.Laws.AppendOwnNone
import Derived.OwnWalk
set_option linter.unusedSimpArgs false
set_option linter.unusedVariables false
namespace Go.Proofs.YtgbghbeolndfiaaGreatDoor
open Go.RowKit

theorem irow_owns {w : World} {base : Nat} {t : TypeId} {v : Value} {xs : List Int} (h : w.ownsRow base t 1 v xs.length (xs.map (Value.int .i64))) (hl : xs.length ≤ 1152921504606846976) : ∃ a cap, v = .slice a xs.length cap ∧ IRow w a xs.length xs ∧ xs.length ≤ cap := by
  obtain ⟨_, h⟩ := h
  rcases h with ⟨rfl, h0⟩ | ⟨g, cap, cur, rfl, _, hg, hc, _, hs, ht⟩
  · have : xs = [] := List.length_eq_zero_iff.1 h0
    subst this
    exact ⟨none, 0, rfl, IRow.nil _ _, Nat.le_refl _⟩
  · refine ⟨_, cap, rfl, ⟨rfl, hl, fun hn => ⟨g, 0, rfl, Blk.lt (show Blk w g cur t from hg), fun j x hx => ?_⟩⟩, hc⟩
    have hb : Blk w g cur t := hg
    rw [hb.cell]
    have hj : j < xs.length := by
      rcases Nat.lt_or_ge j xs.length with h' | h'
      · exact h'
      · simp [List.getElem?_eq_none h'] at hx
    have h1 : (cur.toList.take (xs.length * 1))[j]? = some (Value.int .i64 x) := by rw [ht]; simp [hx]
    rw [List.getElem?_take_of_lt (by omega)] at h1
    simpa using h1
/-- A row of the call's own, from block base on. -/
def ORow (w : World) (base : Nat) (v : Value) (xs : List Int) : Prop := w.ownsRow base 3 1 v xs.length (xs.map (Value.int .i64))
/-- A call that answers a row of its own and leaves what was there. -/
def Own (xs : List Int) (w : World) (e : Ending) (w' : World) : Prop := ∃ v, e = .returned v ∧ ORow w' w.heap.size v xs ∧ Below w.heap.size w w'
/-- .. where the marks are apart. -/
def OwnB (base : Nat) (xs : List Int) (w : World) (e : Ending) (w' : World) : Prop := ∃ v, e = .returned v ∧ ORow w' base v xs ∧ Below base w w'

theorem ORow.nil (w : World) (base : Nat) : ORow w base (.slice none 0 0) [] := ⟨rfl, .inl ⟨rfl, rfl⟩⟩
theorem ORow.cases {w : World} {base : Nat} {v : Value} {xs : List Int} (h : ORow w base v xs) : (v = .slice none 0 0 ∧ xs = []) ∨
    ∃ g cap cur, v = .slice (some ⟨g, 0, none⟩) xs.length cap ∧ base ≤ g ∧ w.heap[g]? = some (.cells cur 3 (0, 0)) ∧ xs.length ≤ cap ∧ cap ≤ maxLen ∧ cur.size = cap ∧ cur.toList.take xs.length = xs.map (Value.int .i64) := by
  obtain ⟨_, h⟩ := h
  rcases h with ⟨rfl, h0⟩ | ⟨g, cap, cur, rfl, h1, h2, h3, h4, h5, h6⟩
  · exact .inl ⟨rfl, List.length_eq_zero_iff.1 h0⟩
  · exact .inr ⟨g, cap, cur, rfl, h1, h2, h3, h4, by simpa using h5, by simpa using h6⟩
theorem ORow.mk' {w : World} {base g cap : Nat} {cur : Array Value} {xs : List Int} {n : Nat} (hn : xs.length = n) (h1 : base ≤ g) (h2 : w.heap[g]? = some (.cells cur 3 (0, 0))) (h3 : xs.length ≤ cap) (h4 : cap ≤ maxLen) (h5 : cur.size = cap) (h6 : cur.toList.take xs.length = xs.map (Value.int .i64)) :
    ORow w base (.slice (some ⟨g, 0, none⟩) n cap) xs := by
  subst hn
  exact ⟨by simp, .inr ⟨g, cap, cur, rfl, h1, h2, h3, h4, by simpa using h5, by simpa using h6⟩⟩
theorem ORow.below {w w' : World} {base m : Nat} {v : Value} {xs : List Int} (h : ORow w base v xs) (hb : Below m w w') (hm : w.heap.size ≤ m) : ORow w' base v xs := by
  rcases h.cases with ⟨rfl, rfl⟩ | ⟨g, cap, cur, rfl, h1, h2, h3, h4, h5, h6⟩
  · exact ORow.nil _ _
  · have hl : g < w.heap.size := Blk.lt (show Blk w g cur 3 from h2)
    exact ORow.mk' rfl h1 (by rw [hb.block g (by omega), h2]) h3 h4 h5 h6
theorem ORow.mono {w : World} {base base' : Nat} {v : Value} {xs : List Int} (h : ORow w base v xs) (hb : base' ≤ base) : ORow w base' v xs := by
  rcases h.cases with ⟨rfl, rfl⟩ | ⟨g, cap, cur, rfl, h1, h2, h3, h4, h5, h6⟩
  · exact ORow.nil _ _
  · exact ORow.mk' rfl (by omega) h2 h3 h4 h5 h6
theorem ORow.irow {w : World} {base : Nat} {v : Value} {xs : List Int} (h : ORow w base v xs) (hl : xs.length ≤ 1152921504606846976) : ∃ a cap, v = .slice a xs.length cap ∧ IRow w a xs.length xs ∧ xs.length ≤ cap := irow_owns h hl
theorem one_ints (xs : List Int) : ∀ v ∈ xs.map (Value.int .i64), v.oneCell' = true := by
  intro v hv
  obtain ⟨x, _, rfl⟩ := List.mem_map.1 hv
  rfl
theorem ORow.lit {w : World} {base : Nat} {v : Value} {xs : List Int} (h : ORow w base v xs) (hl : xs.length ≤ 1000000) : ∃ a cap, v = .slice a xs.length cap ∧ IRow w a xs.length xs := by
  obtain ⟨a, cap, h1, h2, -⟩ := h.irow (by omega)
  exact ⟨a, cap, h1, h2⟩
theorem irow3 (w : World) (x y z : Int) (t : TypeId) : IRow (w.alloc (.cells #[.int .i64 x, .int .i64 y, .int .i64 z] t)) (some ⟨w.heap.size, 0, none⟩) 3 [x, y, z] := IRow.new w [x, y, z] t (by simp)
theorem irow2 (w : World) (x y : Int) (t : TypeId) : IRow (w.alloc (.cells #[.int .i64 x, .int .i64 y] t)) (some ⟨w.heap.size, 0, none⟩) 2 [x, y] := IRow.new w [x, y] t (by simp)
theorem irow1 (w : World) (x : Int) (t : TypeId) : IRow (w.alloc (.cells #[.int .i64 x] t)) (some ⟨w.heap.size, 0, none⟩) 1 [x] := IRow.new w [x] t (by simp)
theorem infoI3 : (Tryz.prog.info? 3).map (fun i => (i.zero, i.size, i.bytes)) = some (some (.int .i64 0), 1, 8) := by kernel_rfl
theorem grown_below {w w' : World} {base : Nat} {v : Value} {xs : List Int} (h : ORow w base v xs) (hg : w.grownBy w' v.ownBlock) (hb : base ≤ w.heap.size) : Below base w w' :=
  (Below.refl base w).grown hg hb fun k hk => by
    rcases h.cases with ⟨rfl, _⟩ | ⟨g, cap, cur, rfl, h1, _⟩
    · simp [Value.ownBlock] at hk
    · simp [Value.ownBlock] at hk; omega
/-- 'append(own, row...)'. -/
theorem wpList_app {ops : Array Oper} {rest : List Oper} {o : Oper} {a : Act} {Q : Exit → Act → World → Prop} {w : World} (hgd : o.guard = none) (s x : Operand)
    (ho : o.op = .call { callee := .builtin .append, args := #[s, x], argTypes := #[35, 35] }) (base : Nat) (v : Value) (xs ys : List Int) (hs : a.eval s = v) (hown : ORow w base v xs)
    (ax : Option Addr) (m c : Nat) (hx : a.eval x = .slice ax m c) (hI : IRow w ax m ys) (h0 : ax = none → c = 0) (hl : xs.length + m ≤ 10000000) (hb : base ≤ w.heap.size)
    (h : ∀ v' w', ORow w' base v' (xs ++ ys) → Below base w w' → wpList Tryz.prog ops Q rest (a.put o.dst v') w') : wpList Tryz.prog ops Q (o :: rest) a w := by
  obtain ⟨i0, hi, hz0, hz1, hz2⟩ := info_parts infoI3
  obtain ⟨rfl, -, hc⟩ := hI
  cases ax with
  | none =>
    have hy : ys = [] := by
      rcases Nat.eq_zero_or_pos ys.length with h | h
      · exact List.length_eq_zero_iff.1 h
      · obtain ⟨b, o, hh, -⟩ := hc h
        cases hh
    subst hy
    obtain rfl := h0 rfl
    exact wpList_append_own_none hgd s x 35 ho base 3 i0 1 Tryz.underlying35 hi v xs.length (xs.map (Value.int .i64)) hs hown hx (h v w (by rw [List.append_nil]; exact hown) (Below.refl _ _))
  | some ad =>
    refine wpList_append_own w hgd s x 35 ho base 3 i0 (.int .i64 0) 1 8 Tryz.underlying35 hi hz0 hz1 hz2 rfl (by decide) v xs.length (xs.map (Value.int .i64)) hs hown ad ys.length c (ys.map (Value.int .i64)) hx (by simp) (fun j u hj => ?_) (one_ints ys) (by unfold maxLen; omega) (by omega) hb (fun v' w' h1 h2 _ => h v' w' ?_ (grown_below hown h2 hb))
    · have hj' : j < ys.length := by
        rcases Nat.lt_or_ge j ys.length with h | h
        · exact h
        · rw [List.getElem?_eq_none (by simp; omega)] at hj; cases hj
      obtain ⟨b, q, he, hl, hcell⟩ := hc (by omega)
      cases he
      simp only [List.getElem?_map] at hj
      obtain ⟨y, hy, rfl⟩ := Option.map_eq_some_iff.1 hj
      have := hcell j y hy
      by_cases h0 : j = 0 <;> simp_all [Addr.add]
    · unfold ORow
      simpa using h1


theorem ORow.other {w : World} {base : Nat} {v : Value} {xs : List Int} (h : ORow w base v xs) {ad : Addr} (hb : ad.block < base) (u : Value) : ORow (w.setCell ad u) base v xs := by
  rcases h.cases with ⟨rfl, rfl⟩ | ⟨g, cap, cur, rfl, h1, h2, h3, h4, h5, h6⟩
  · exact ORow.nil _ _
  · exact ORow.mk' rfl h1 (Blk.other (show Blk w g cur 3 from h2) (by omega) u) h3 h4 h5 h6
/-- A row that lies somewhere, as a value; where there is something in it: from block base on. -/
def DRow (w : World) (base : Nat) (v : Value) (xs : List Int) : Prop := ∃ a c, v = .slice a xs.length c ∧ IRow w a xs.length xs ∧ xs.length ≤ c ∧ (a = none → c = 0) ∧ (0 < xs.length → ∀ b o, a = some ⟨b, o, none⟩ → base ≤ b)
theorem DRow.below {w w' : World} {v : Value} {base m : Nat} {xs : List Int} (h : DRow w base v xs) (hb : Below m w w') (hm : w.heap.size ≤ m) : DRow w' base v xs := by
  obtain ⟨a, c, h1, h2, h3⟩ := h
  exact ⟨a, c, h1, h2.below hb hm, h3⟩
theorem DRow.mono {w : World} {v : Value} {base m : Nat} {xs : List Int} (h : DRow w base v xs) (hm : m ≤ base) : DRow w m v xs := by
  obtain ⟨a, c, h1, h2, h3, h4, h5⟩ := h
  exact ⟨a, c, h1, h2, h3, h4, fun h b o e => Nat.le_trans hm (h5 h b o e)⟩
theorem IRow.other {w : World} {a : Option Addr} {n : Nat} {xs : List Int} (h : IRow w a n xs) {ad : Addr} (u : Value) (hne : 0 < n → ∀ b o, a = some ⟨b, o, none⟩ → b ≠ ad.block) : IRow (w.setCell ad u) a n xs := by
  refine ⟨h.1, h.2.1, fun hn => ?_⟩
  obtain ⟨b, o, e, hl, hc⟩ := h.2.2 hn
  have := hne hn b o e
  refine ⟨b, o, e, by simpa using hl, fun j x hx => ?_⟩
  rw [← hc j x hx]
  have hh : (w.setCell ad u).heap[b]? = w.heap[b]? := Below.heap_setCell _ _ _ _ this
  simp [World.cell?, hh]
theorem DRow.other {w : World} {v : Value} {base : Nat} {xs : List Int} (h : DRow w base v xs) {ad : Addr} (hb : ad.block < base) (u : Value) : DRow (w.setCell ad u) base v xs := by
  obtain ⟨a, c, h1, h2, h3, h4, h5⟩ := h
  exact ⟨a, c, h1, h2.other u (fun h b o e => by have := h5 h b o e; omega), h3, h4, h5⟩
theorem DRow.nil (w : World) (base : Nat) : DRow w base (.slice none 0 0) [] := ⟨none, 0, rfl, IRow.nil _ _, Nat.le_refl _, fun _ => rfl, fun h => by simp at h⟩
theorem ORow.drow {w : World} {base : Nat} {v : Value} {xs : List Int} (h : ORow w base v xs) (hl : xs.length ≤ 1152921504606846976) : DRow w base v xs := by
  rcases h.cases with ⟨rfl, rfl⟩ | ⟨g, cap, cur, rfl, h1, h2, h3, h4, h5, h6⟩
  · exact DRow.nil w base
  · obtain ⟨a, c, e, hi, hc⟩ := h.irow hl
    cases e
    exact ⟨_, _, rfl, hi, hc, (fun h => by cases h), (fun _ b o e => by cases e; exact h1)⟩
end Go.Proofs.YtgbghbeolndfiaaGreatDoor

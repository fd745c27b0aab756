/- Texts put together: LbA, LbB, LbC, LbD, LbE. -/
import Derived.Test.YtfagfkfcokmclaaGreatDoorZMgB
import Derived.Laws.AppendOwnNone
import Derived.OwnWalk
import Derived.Test.YtfagfkfcokmclaaGreatDoorZAtJ
section
set_option linter.unusedSimpArgs false
set_option linter.unusedVariables false
set_option linter.constructorNameAsVariable false
namespace Go.Proofs.YtfagfkfcokmclaaGreatDoor
open Go.RowKit Go.Sort

/-- The cells of a row of items. -/
def cellsI : List At → List Value
  | [] => []
  | p :: r => .int .i64 0 :: .int .i64 p.k :: .int .i64 p.n :: .int .i64 p.s :: .string p.t :: .bool p.b :: cellsI r
theorem cellsI_len (xs : List At) : (cellsI xs).length = xs.length * 6 := by
  induction xs with
  | nil => rfl
  | cons p r ih => simp only [cellsI, List.length_cons, ih]; omega
theorem cellsI_app (xs ys : List At) : cellsI (xs ++ ys) = cellsI xs ++ cellsI ys := by
  induction xs with
  | nil => rfl
  | cons p r ih => simp only [cellsI, List.cons_append, ih]
theorem cellsI_one (xs : List At) : ∀ v ∈ cellsI xs, v.oneCell' = true := by
  induction xs with
  | nil => intro v hv; cases hv
  | cons p r ih =>
    intro v hv
    simp only [cellsI, List.mem_cons] at hv
    rcases hv with rfl | rfl | rfl | rfl | rfl | rfl | hv
    all_goals first | rfl | exact ih v hv
theorem cellsI_at : ∀ (xs : List At) (k : Nat) (x : At), xs[k]? = some x → (cellsI xs)[k * 6]? = some (.int .i64 0) ∧ (cellsI xs)[k * 6 + 1]? = some (.int .i64 x.k) ∧ (cellsI xs)[k * 6 + 2]? = some (.int .i64 x.n) ∧ (cellsI xs)[k * 6 + 3]? = some (.int .i64 x.s) ∧ (cellsI xs)[k * 6 + 4]? = some (.string x.t) ∧ (cellsI xs)[k * 6 + 5]? = some (.bool x.b)
  | [], k, x, h => by simp at h
  | p :: r, 0, x, h => by
    simp at h
    subst h
    exact ⟨rfl, rfl, rfl, rfl, rfl, rfl⟩
  | p :: r, k + 1, x, h => by
    have := cellsI_at r k x (by simpa using h)
    rw [show (k + 1) * 6 = k * 6 + 1 + 1 + 1 + 1 + 1 + 1 by omega]
    simpa [cellsI] using this
/-- A row of items that lies. -/
def ItRow (w : World) (a : Option Addr) (xs : List At) : Prop := xs = [] ∨ ∃ b o, a = some ⟨b, o, none⟩ ∧ b < w.heap.size ∧ ∀ j x, xs[j]? = some x →
  w.cell? ⟨b, o + j * 6, none⟩ = some (.int .i64 0) ∧ w.cell? ⟨b, o + j * 6 + 1, none⟩ = some (.int .i64 x.k) ∧ w.cell? ⟨b, o + j * 6 + 2, none⟩ = some (.int .i64 x.n) ∧ w.cell? ⟨b, o + j * 6 + 3, none⟩ = some (.int .i64 x.s) ∧ w.cell? ⟨b, o + j * 6 + 4, none⟩ = some (.string x.t) ∧ w.cell? ⟨b, o + j * 6 + 5, none⟩ = some (.bool x.b)
theorem ItRow.on {w w' : World} {a : Option Addr} {xs : List At} (h : ItRow w a xs) (hb : Below w.heap.size w w') : ItRow w' a xs := by
  rcases h with h | ⟨b, o, rfl, hl, hc⟩
  · exact .inl h
  · refine .inr ⟨b, o, rfl, Nat.lt_of_lt_of_le hl hb.size, fun j x hj => ?_⟩
    obtain ⟨y0, y1, y2, y3, y4, y5⟩ := hc j x hj
    exact ⟨(hb.cell (p := ⟨b, _, none⟩) hl).trans y0, (hb.cell (p := ⟨b, _, none⟩) hl).trans y1, (hb.cell (p := ⟨b, _, none⟩) hl).trans y2, (hb.cell (p := ⟨b, _, none⟩) hl).trans y3, (hb.cell (p := ⟨b, _, none⟩) hl).trans y4, (hb.cell (p := ⟨b, _, none⟩) hl).trans y5⟩
theorem infoI : (Tryz.prog.info? 28).map (fun i => (i.zero, i.size, i.bytes)) = some (some (.agg #[.int .i64 0, .int .i64 0, .int .i64 0, .int .i64 0, .string .empty, .bool false]), 6, 56) := by kernel_rfl
/-- The call's own row of items. -/
def OwnI (base : Nat) (w : World) (v : Value) (xs : List At) : Prop := w.ownsRow base 28 6 v xs.length (cellsI xs)
theorem OwnI.nil (base : Nat) (w : World) : OwnI base w (.slice none 0 0) [] := World.ownsRow_nil w base _ 6
theorem OwnI.read {w : World} {base : Nat} {v : Value} {xs : List At} (h : OwnI base w v xs) : ∃ a c, v = .slice a xs.length c ∧ ItRow w a xs ∧ (a = none → c = 0) := by
  obtain ⟨_, h⟩ := h
  rcases h with ⟨rfl, h0⟩ | ⟨g, cap, cur, rfl, h1, h2, h3, h4, h5, h6⟩
  · exact ⟨none, 0, by rw [h0], .inl (List.length_eq_zero_iff.1 h0), fun _ => rfl⟩
  · have hB : Blk w g cur 28 := h2
    have hc : ∀ i x, (cellsI xs)[i]? = some x → w.cell? ⟨g, i, none⟩ = some x := fun i x hx => by
      rw [hB.cell i]
      rw [← h6, List.getElem?_take] at hx
      split at hx
      · simpa using hx
      · cases hx
    refine ⟨some ⟨g, 0, none⟩, cap, rfl, .inr ⟨g, 0, rfl, hB.lt, fun j x hj => ?_⟩, fun h => by cases h⟩
    obtain ⟨y0, y1, y2, y3, y4, y5⟩ := cellsI_at xs j x hj
    simp only [Nat.zero_add]
    exact ⟨hc _ _ y0, hc _ _ y1, hc _ _ y2, hc _ _ y3, hc _ _ y4, hc _ _ y5⟩
theorem OwnI.grown {w w' : World} {base : Nat} {v : Value} {xs : List At} (h : OwnI base w v xs) (hg : w.grownBy w' v.ownBlock) (hb : base ≤ w.heap.size) : Below base w w' :=
  (Below.refl base w).grown hg hb fun k hk => by
    rcases h.2 with ⟨rfl, _⟩ | ⟨g, cap, cur, rfl, h1, _⟩
    · simp [Value.ownBlock] at hk
    · simp [Value.ownBlock] at hk; omega
/-- 'append(own, one)'. -/
theorem wpList_appI {ops : Array Oper} {rest : List Oper} {o : Oper} {act : Act} {Q : Exit → Act → World → Prop} {w : World} (hgd : o.guard = none) (s x : Operand)
    (ho : o.op = .call { callee := .builtin .append, args := #[s, x], argTypes := #[29, 29] }) (base : Nat) (v : Value) (xs : List At) (hs : act.eval s = v) (hown : OwnI base w v xs)
    (q c : Nat) (p : At) (hx : act.eval x = .slice (some ⟨q, 0, none⟩) 1 c) (hB : Blk w q #[.int .i64 0, .int .i64 p.k, .int .i64 p.n, .int .i64 p.s, .string p.t, .bool p.b] 28) (hl : xs.length + 1 ≤ 1000000000) (hb : base ≤ w.heap.size)
    (h : ∀ v' w', OwnI base w' v' (xs ++ [p]) → Below base w w' → wpList Tryz.prog ops Q rest (act.put o.dst v') w') : wpList Tryz.prog ops Q (o :: rest) act w := by
  obtain ⟨i0, hi, hz0, hz1, hz2⟩ := info_parts infoI
  refine wpList_append_own w hgd s x 29 ho base 28 i0 (.agg #[.int .i64 0, .int .i64 0, .int .i64 0, .int .i64 0, .string .empty, .bool false]) 6 56 Tryz.underlying29 hi hz0 hz1 hz2 rfl (by decide) v xs.length (cellsI xs) hs hown ⟨q, 0, none⟩ 1 c (cellsI [p]) hx (cellsI_len [p]) (fun j u hj => ?_) (cellsI_one [p]) (by unfold maxLen; omega) (by omega) hb (fun v' w' h1 h2 _ => ?_)
  · rw [Addr.add_lit, Nat.zero_add, hB.cell j]
    simpa [cellsI] using hj
  · have h3 : OwnI base w' v' (xs ++ [p]) := by
      unfold OwnI
      rw [cellsI_app, List.length_append]
      exact h1
    exact h v' w' h3 (OwnI.grown hown h2 hb)
/-- The makers' rows. -/
def strA (s : ByteArray) : At := ⟨3, 0, 0, s, false⟩
def intA (n : Int) : At := ⟨1, n, 0, ⟨#[]⟩, false⟩
def boolA (b : Bool) : At := ⟨4, 0, 0, ⟨#[]⟩, b⟩
end Go.Proofs.YtfagfkfcokmclaaGreatDoor
end
section
set_option linter.unusedSimpArgs false
set_option linter.unusedVariables false
set_option linter.constructorNameAsVariable false
namespace Go.Proofs.YtfagfkfcokmclaaGreatDoor
open Go.RowKit Go.Sort

/-- A row of values that lies. -/
def VRow (w : World) (a : Option Addr) (xs : List At) : Prop := xs = [] ∨ ∃ b o, a = some ⟨b, o, none⟩ ∧ b < w.heap.size ∧ ∀ j x, xs[j]? = some x →
  w.cell? ⟨b, o + j * 5, none⟩ = some (.int .i64 x.k) ∧ w.cell? ⟨b, o + j * 5 + 1, none⟩ = some (.int .i64 x.n) ∧ w.cell? ⟨b, o + j * 5 + 2, none⟩ = some (.int .i64 x.s) ∧ w.cell? ⟨b, o + j * 5 + 3, none⟩ = some (.string x.t) ∧ w.cell? ⟨b, o + j * 5 + 4, none⟩ = some (.bool x.b)
theorem VRow.on {w w' : World} {a : Option Addr} {xs : List At} (h : VRow w a xs) (hb : Below w.heap.size w w') : VRow w' a xs := by
  rcases h with h | ⟨b, o, rfl, hl, hc⟩
  · exact .inl h
  · refine .inr ⟨b, o, rfl, Nat.lt_of_lt_of_le hl hb.size, fun j x hj => ?_⟩
    obtain ⟨y0, y1, y2, y3, y4⟩ := hc j x hj
    exact ⟨(hb.cell (p := ⟨b, _, none⟩) hl).trans y0, (hb.cell (p := ⟨b, _, none⟩) hl).trans y1, (hb.cell (p := ⟨b, _, none⟩) hl).trans y2, (hb.cell (p := ⟨b, _, none⟩) hl).trans y3, (hb.cell (p := ⟨b, _, none⟩) hl).trans y4⟩
theorem VRow.one {w : World} {q : Nat} {t : TypeId} {x : At} (h : Blk w q #[.int .i64 x.k, .int .i64 x.n, .int .i64 x.s, .string x.t, .bool x.b] t) : VRow w (some ⟨q, 0, none⟩) [x] :=
  .inr ⟨q, 0, rfl, h.lt, fun j y hj => by
    cases j with
    | zero =>
      simp at hj
      subst hj
      exact ⟨h.cell 0, h.cell 1, h.cell 2, h.cell 3, h.cell 4⟩
    | succ j => simp at hj⟩
theorem OwnI.on {base : Nat} {w w' : World} {v : Value} {xs : List At} (h : OwnI base w v xs) (hb : Below w.heap.size w w') : OwnI base w' v xs := by
  refine ⟨h.1, ?_⟩
  rcases h.2 with h0 | ⟨g, cap, cur, rfl, h1, h2, h3, h4, h5, h6⟩
  · exact .inl h0
  · have hB : Blk w g cur 28 := h2
    exact .inr ⟨g, cap, cur, rfl, h1, (show Blk w' g cur 28 from Blk.below hB hb hB.lt), h3, h4, h5, h6⟩
set_option maxRecDepth 100000 in
set_option maxHeartbeats 1600000 in
theorem lof_any (xs : List At) (a : Option Addr) (c : Nat) (w : World) (hT : VRow w a xs) (hl : xs.length ≤ 100000000) :
    Calls Tryz.prog 31 #[.slice a xs.length c] w fun e w' => ∃ v, e = .returned v ∧ OwnI w.heap.size w' v xs ∧ Below w.heap.size w w' := by
  have HT := Lib.hid hT
  clear hT
  go_enter Tryz.func31, Tryz.ntmps31
  go_wp2_with fail
  go_loopg [3, 8] (xs.length + 1) (fun m oo ii wr => ∃ j : Nat, j ≤ xs.length ∧ m + j = xs.length + 1 ∧ ii = .int .i64 (j : Int) ∧ OwnI w.heap.size wr oo (xs.take j) ∧ Below w.heap.size w wr)
  case atStart => exact ⟨0, by omega, by omega, rfl, OwnI.nil _ _, Below.refl _ _⟩
  case round =>
    obtain ⟨j, hj, hmj, rfl, hO, hwr⟩ := hrel
    have HO := Lib.hid hO
    have hj0 : (0 : Int) ≤ (j : Int) := Int.natCast_nonneg _
    by_cases hlt : j < xs.length
    · have i0 : decide ((j : Int) < (xs.length : Int)) = true := by simp; omega
      have i6 : (j : Int) < (xs.length : Int) := by omega
      obtain ⟨x, hjx⟩ : ∃ x, xs[j]? = some x := ⟨_, List.getElem?_eq_getElem hlt⟩
      rcases HT.out with h0 | ⟨b, o, rfl, hb, hc⟩
      · rw [h0] at hlt; simp at hlt
      obtain ⟨u0, u1, u2, u3, u4⟩ := hc j x hjx
      replace u0 := (hwr.cell (p := ⟨b, o + j * 5, none⟩) hb).trans u0
      replace u1 := (hwr.cell (p := ⟨b, o + j * 5 + 1, none⟩) hb).trans u1
      replace u2 := (hwr.cell (p := ⟨b, o + j * 5 + 2, none⟩) hb).trans u2
      replace u3 := (hwr.cell (p := ⟨b, o + j * 5 + 3, none⟩) hb).trans u3
      replace u4 := (hwr.cell (p := ⟨b, o + j * 5 + 4, none⟩) hb).trans u4
      have lb := Nat.lt_of_lt_of_le hb hwr.size
      have htk : (xs.take j).length = j := by rw [List.length_take]; omega
      have hts : xs.take (j + 1) = xs.take j ++ [x] := by rw [List.take_add_one, hjx]; rfl
      have HTS := Lib.hid hts
      clear hc hjx hO hts
      go_wp2_with (at_builtin; refine wpList_appI rfl _ _ rfl w.heap.size _ (xs.take j) rfl ((HO.out.on ((Below.refl _ _).alloc (Nat.le_refl _) _)).on ((Below.refl _ _).alloc (Nat.le_refl _) _)) (wr.heap.size + 1) _ x rfl (by have := Blk.new (wr.alloc (.cells #[.int .i64 x.k, .int .i64 x.n, .int .i64 x.s, .string x.t, .bool x.b] 24)) #[.int .i64 0, .int .i64 x.k, .int .i64 x.n, .int .i64 x.s, .string x.t, .bool x.b] 28; simpa using this) (by omega) (by have := hwr.size; simp; omega) ?_)
      intro v' w5 hO5 hb5
      have hw5 : Below w.heap.size w w5 := ((hwr.alloc hwr.size _).alloc (by simp; have := hwr.size; omega) _).trans hb5
      rw [← HTS.out] at hO5
      go_wp2_with fail
      go_roundg (gk - 1)
      case measure => omega
      case rel => exact ⟨j + 1, by omega, by omega, by go_num, hO5, hw5⟩
    · have i0 : decide ((j : Int) < (xs.length : Int)) = false := by simp; omega
      have hO' := hO
      rw [List.take_of_length_le (by omega)] at hO'
      have HO2 := Lib.hid hO'
      clear hO hO' HO
      go_wp2_with fail
      go_returns
      exact ⟨_, rfl, HO2.out, hwr⟩
end Go.Proofs.YtfagfkfcokmclaaGreatDoor
end
section
set_option linter.unusedSimpArgs false
set_option linter.unusedVariables false
set_option linter.constructorNameAsVariable false
namespace Go.Proofs.YtfagfkfcokmclaaGreatDoor
open Go.RowKit Go.Sort

theorem OwnI.low {w : World} {base base' : Nat} {v : Value} {xs : List At} (h : OwnI base w v xs) (hb : base' ≤ base) : OwnI base' w v xs := by
  refine ⟨h.1, ?_⟩
  rcases h.2 with h0 | ⟨g, cap, cur, rfl, h1, h2⟩
  · exact .inl h0
  · exact .inr ⟨g, cap, cur, rfl, Nat.le_trans hb h1, h2⟩
theorem lof_one (k n s : Int) (t : ByteArray) (b : Bool) (w : World) : Calls Tryz.prog 31 #[.slice (some ⟨w.heap.size, 0, none⟩) 1 1] (w.alloc (.cells #[.int .i64 k, .int .i64 n, .int .i64 s, .string t, .bool b] 24)) fun e w' => ∃ v, e = .returned v ∧ OwnI w.heap.size w' v [⟨k, n, s, t, b⟩] ∧ Below w.heap.size w w' := by
  have h := lof_any [⟨k, n, s, t, b⟩] _ 1 _ (VRow.one (Blk.new w #[.int .i64 k, .int .i64 n, .int .i64 s, .string t, .bool b] 24)) (by show (1 : Nat) ≤ _; omega)
  refine Calls.mono h fun e w' hh => ?_
  obtain ⟨v, rfl, h1, h2⟩ := hh
  refine ⟨v, rfl, ?_, ((Below.refl _ _).alloc (Nat.le_refl _) _).trans (h2.mono (by simp))⟩
  exact OwnI.low h1 (by simp)
set_option maxRecDepth 100000 in
set_option maxHeartbeats 1600000 in
theorem whole_row (n : Int) (w : World) : Calls Tryz.prog 28 #[.int .i64 n] w fun e w' => ∃ v, e = .returned v ∧ OwnI w.heap.size w' v [ofA n] ∧ Below w.heap.size w w' := by
  have C1 := Lib.hid (of_any n w)
  go_enter Tryz.func28, Tryz.ntmps28
  go_wp2_with fail
  with_reducible refine C1.out.mono ?_
  rintro e w1 ⟨rfl, hb1⟩
  have C2 := Lib.hid (lof_one 1 n 0 (bs []) false w1)
  go_wp2_with fail
  with_reducible refine C2.out.mono ?_
  rintro e w2 ⟨v, rfl, h2, hb2⟩
  go_wp2_with fail
  go_returns
  exact ⟨_, rfl, OwnI.low h2 hb1.size, hb1.trans (hb2.mono hb1.size)⟩
set_option maxRecDepth 100000 in
set_option maxHeartbeats 1600000 in
theorem text_row (s : ByteArray) (w : World) : Calls Tryz.prog 35 #[.string s] w fun e w' => ∃ v, e = .returned v ∧ OwnI w.heap.size w' v [textA s] ∧ Below w.heap.size w w' := by
  have C1 := Lib.hid (text_any s w)
  go_enter Tryz.func35, Tryz.ntmps35
  go_wp2_with fail
  with_reducible refine C1.out.mono ?_
  rintro e w1 ⟨rfl, hb1⟩
  have C2 := Lib.hid (lof_one 3 0 0 s false w1)
  go_wp2_with fail
  with_reducible refine C2.out.mono ?_
  rintro e w2 ⟨v, rfl, h2, hb2⟩
  go_wp2_with fail
  go_returns
  exact ⟨_, rfl, OwnI.low h2 hb1.size, hb1.trans (hb2.mono hb1.size)⟩
set_option maxRecDepth 100000 in
set_option maxHeartbeats 1600000 in
theorem truth_row (b : Bool) (w : World) : Calls Tryz.prog 29 #[.bool b] w fun e w' => ∃ v, e = .returned v ∧ OwnI w.heap.size w' v [truthA b] ∧ Below w.heap.size w w' := by
  have C1 := Lib.hid (truth_any b w)
  go_enter Tryz.func29, Tryz.ntmps29
  go_wp2_with fail
  with_reducible refine C1.out.mono ?_
  rintro e w1 ⟨rfl, hb1⟩
  have C2 := Lib.hid (lof_one 4 0 0 (bs []) b w1)
  go_wp2_with fail
  with_reducible refine C2.out.mono ?_
  rintro e w2 ⟨v, rfl, h2, hb2⟩
  go_wp2_with fail
  go_returns
  exact ⟨_, rfl, OwnI.low h2 hb1.size, hb1.trans (hb2.mono hb1.size)⟩
end Go.Proofs.YtfagfkfcokmclaaGreatDoor
end
section
set_option linter.unusedSimpArgs false
set_option linter.unusedVariables false
set_option linter.constructorNameAsVariable false
namespace Go.Proofs.YtfagfkfcokmclaaGreatDoor
open Go.RowKit Go.Sort

/-- The cells of a row of values. -/
def cellsV : List At → List Value
  | [] => []
  | p :: r => .int .i64 p.k :: .int .i64 p.n :: .int .i64 p.s :: .string p.t :: .bool p.b :: cellsV r
theorem cellsV_len (xs : List At) : (cellsV xs).length = xs.length * 5 := by
  induction xs with
  | nil => rfl
  | cons p r ih => simp only [cellsV, List.length_cons, ih]; omega
theorem cellsV_app (xs ys : List At) : cellsV (xs ++ ys) = cellsV xs ++ cellsV ys := by
  induction xs with
  | nil => rfl
  | cons p r ih => simp only [cellsV, List.cons_append, ih]
theorem cellsV_one (xs : List At) : ∀ v ∈ cellsV xs, v.oneCell' = true := by
  induction xs with
  | nil => intro v hv; cases hv
  | cons p r ih =>
    intro v hv
    simp only [cellsV, List.mem_cons] at hv
    rcases hv with rfl | rfl | rfl | rfl | rfl | hv
    all_goals first | rfl | exact ih v hv
theorem cellsV_at : ∀ (xs : List At) (k : Nat) (x : At), xs[k]? = some x → (cellsV xs)[k * 5]? = some (.int .i64 x.k) ∧ (cellsV xs)[k * 5 + 1]? = some (.int .i64 x.n) ∧ (cellsV xs)[k * 5 + 2]? = some (.int .i64 x.s) ∧ (cellsV xs)[k * 5 + 3]? = some (.string x.t) ∧ (cellsV xs)[k * 5 + 4]? = some (.bool x.b)
  | [], k, x, h => by simp at h
  | p :: r, 0, x, h => by
    simp at h
    subst h
    exact ⟨rfl, rfl, rfl, rfl, rfl⟩
  | p :: r, k + 1, x, h => by
    have := cellsV_at r k x (by simpa using h)
    rw [show (k + 1) * 5 = k * 5 + 1 + 1 + 1 + 1 + 1 by omega]
    simpa [cellsV] using this
theorem infoV : (Tryz.prog.info? 24).map (fun i => (i.zero, i.size, i.bytes)) = some (some (.agg #[.int .i64 0, .int .i64 0, .int .i64 0, .string .empty, .bool false]), 5, 48) := by kernel_rfl
/-- The call's own row of values. -/
def OwnV (base : Nat) (w : World) (v : Value) (xs : List At) : Prop := w.ownsRow base 24 5 v xs.length (cellsV xs)
theorem OwnV.nil (base : Nat) (w : World) : OwnV base w (.slice none 0 0) [] := World.ownsRow_nil w base _ 5
theorem OwnV.low {w : World} {base base' : Nat} {v : Value} {xs : List At} (h : OwnV base w v xs) (hb : base' ≤ base) : OwnV base' w v xs := by
  refine ⟨h.1, ?_⟩
  rcases h.2 with h0 | ⟨g, cap, cur, rfl, h1, h2⟩
  · exact .inl h0
  · exact .inr ⟨g, cap, cur, rfl, Nat.le_trans hb h1, h2⟩
theorem OwnV.on {base : Nat} {w w' : World} {v : Value} {xs : List At} (h : OwnV base w v xs) (hb : Below w.heap.size w w') : OwnV base w' v xs := by
  refine ⟨h.1, ?_⟩
  rcases h.2 with h0 | ⟨g, cap, cur, rfl, h1, h2, h3, h4, h5, h6⟩
  · exact .inl h0
  · have hB : Blk w g cur 24 := h2
    exact .inr ⟨g, cap, cur, rfl, h1, (show Blk w' g cur 24 from Blk.below hB hb hB.lt), h3, h4, h5, h6⟩
theorem OwnV.read {w : World} {base : Nat} {v : Value} {xs : List At} (h : OwnV base w v xs) : ∃ a c, v = .slice a xs.length c ∧ VRow w a xs ∧ (a = none → c = 0) := by
  obtain ⟨_, h⟩ := h
  rcases h with ⟨rfl, h0⟩ | ⟨g, cap, cur, rfl, h1, h2, h3, h4, h5, h6⟩
  · exact ⟨none, 0, by rw [h0], .inl (List.length_eq_zero_iff.1 h0), fun _ => rfl⟩
  · have hB : Blk w g cur 24 := h2
    have hc : ∀ i x, (cellsV xs)[i]? = some x → w.cell? ⟨g, i, none⟩ = some x := fun i x hx => by
      rw [hB.cell i]
      rw [← h6, List.getElem?_take] at hx
      split at hx
      · simpa using hx
      · cases hx
    refine ⟨some ⟨g, 0, none⟩, cap, rfl, .inr ⟨g, 0, rfl, hB.lt, fun j x hj => ?_⟩, fun h => by cases h⟩
    obtain ⟨y0, y1, y2, y3, y4⟩ := cellsV_at xs j x hj
    simp only [Nat.zero_add]
    exact ⟨hc _ _ y0, hc _ _ y1, hc _ _ y2, hc _ _ y3, hc _ _ y4⟩
theorem OwnV.grown {w w' : World} {base : Nat} {v : Value} {xs : List At} (h : OwnV base w v xs) (hg : w.grownBy w' v.ownBlock) (hb : base ≤ w.heap.size) : Below base w w' :=
  (Below.refl base w).grown hg hb fun k hk => by
    rcases h.2 with ⟨rfl, _⟩ | ⟨g, cap, cur, rfl, h1, _⟩
    · simp [Value.ownBlock] at hk
    · simp [Value.ownBlock] at hk; omega
/-- 'append(own, one)'. -/
theorem wpList_appV {ops : Array Oper} {rest : List Oper} {o : Oper} {act : Act} {Q : Exit → Act → World → Prop} {w : World} (hgd : o.guard = none) (s x : Operand)
    (ho : o.op = .call { callee := .builtin .append, args := #[s, x], argTypes := #[63, 63] }) (base : Nat) (v : Value) (xs : List At) (hs : act.eval s = v) (hown : OwnV base w v xs)
    (q o2 c : Nat) (p : At) (hx : act.eval x = .slice (some ⟨q, o2, none⟩) 1 c) (hB : VRow w (some ⟨q, o2, none⟩) [p]) (hl : xs.length + 1 ≤ 1000000000) (hb : base ≤ w.heap.size)
    (h : ∀ v' w', OwnV base w' v' (xs ++ [p]) → Below base w w' → wpList Tryz.prog ops Q rest (act.put o.dst v') w') : wpList Tryz.prog ops Q (o :: rest) act w := by
  obtain ⟨i0, hi, hz0, hz1, hz2⟩ := info_parts infoV
  refine wpList_append_own w hgd s x 63 ho base 24 i0 (.agg #[.int .i64 0, .int .i64 0, .int .i64 0, .string .empty, .bool false]) 5 48 Tryz.underlying63 hi hz0 hz1 hz2 rfl (by decide) v xs.length (cellsV xs) hs hown ⟨q, o2, none⟩ 1 c (cellsV [p]) hx (cellsV_len [p]) (fun j u hj => ?_) (cellsV_one [p]) (by unfold maxLen; omega) (by omega) hb (fun v' w' h1 h2 _ => ?_)
  · rw [Addr.add_lit]
    rcases hB with h0 | ⟨b, q', he, -, hc⟩
    · cases h0
    cases he
    obtain ⟨y0, y1, y2, y3, y4⟩ := hc 0 p rfl
    simp only [Nat.zero_mul, Nat.add_zero] at y0 y1 y2 y3 y4
    match j, hj with
    | 0, hj => simp [cellsV] at hj; subst hj; exact y0
    | 1, hj => simp [cellsV] at hj; subst hj; exact y1
    | 2, hj => simp [cellsV] at hj; subst hj; exact y2
    | 3, hj => simp [cellsV] at hj; subst hj; exact y3
    | 4, hj => simp [cellsV] at hj; subst hj; exact y4
    | j + 5, hj => simp [cellsV] at hj
  · have h3 : OwnV base w' v' (xs ++ [p]) := by
      unfold OwnV
      rw [cellsV_app, List.length_append]
      exact h1
    exact h v' w' h3 (OwnV.grown hown h2 hb)
set_option maxRecDepth 100000 in
set_option maxHeartbeats 600000 in
/-- One item's values. -/
theorem datoms_one (x : At) (q c : Nat) (sv : Value) (w : World) (hB : Blk w q #[.int .i64 0, .int .i64 x.k, .int .i64 x.n, .int .i64 x.s, .string x.t, .bool x.b] 28) :
    Calls Tryz.prog 121 #[sv, .slice (some ⟨q, 0, none⟩) 1 c] w fun e w' => ∃ v, e = .returned v ∧ OwnV w.heap.size w' v [x] ∧ Below w.heap.size w w' := by
  have u0 : w.cell? ⟨q, 0, none⟩ = some (.int .i64 0) := hB.cell 0
  have u1 : w.cell? ⟨q, 1, none⟩ = some (.int .i64 x.k) := hB.cell 1
  have u2 : w.cell? ⟨q, 2, none⟩ = some (.int .i64 x.n) := hB.cell 2
  have u3 : w.cell? ⟨q, 3, none⟩ = some (.int .i64 x.s) := hB.cell 3
  have u4 : w.cell? ⟨q, 4, none⟩ = some (.string x.t) := hB.cell 4
  have u5 : w.cell? ⟨q, 5, none⟩ = some (.bool x.b) := hB.cell 5
  have lq := hB.lt
  clear hB
  go_enter Tryz.func121, Tryz.ntmps121
  go_wp2_with fail
  go_loopg [5, 10] 2 (fun m oo ii wr => (m = 2 ∧ ii = .int .i64 0 ∧ oo = .slice none 0 0 ∧ wr = w) ∨ (m = 1 ∧ ii = .int .i64 1 ∧ OwnV w.heap.size wr oo [x] ∧ Below w.heap.size w wr))
  case atStart => exact .inl ⟨rfl, rfl, rfl, rfl⟩
  case round =>
    rcases hrel with ⟨hm, rfl, rfl, rfl⟩ | ⟨hm, rfl, hO, hwr⟩
    · have hw2 : Below wr.heap.size wr ((wr.alloc (.cells #[.int .i64 0, .int .i64 x.k, .int .i64 x.n, .int .i64 x.s, .string x.t, .bool x.b] 28)).alloc (.cells #[.int .i64 x.k, .int .i64 x.n, .int .i64 x.s, .string x.t, .bool x.b] 24)) := ((Below.refl _ _).alloc (Nat.le_refl _) _).alloc (by simp) _
      have HV : Hid (VRow ((wr.alloc (.cells #[.int .i64 0, .int .i64 x.k, .int .i64 x.n, .int .i64 x.s, .string x.t, .bool x.b] 28)).alloc (.cells #[.int .i64 x.k, .int .i64 x.n, .int .i64 x.s, .string x.t, .bool x.b] 24)) (some ⟨wr.heap.size + 1, 0, none⟩) [x]) := by
        have := VRow.one (x := x) (Blk.new (wr.alloc (.cells #[.int .i64 0, .int .i64 x.k, .int .i64 x.n, .int .i64 x.s, .string x.t, .bool x.b] 28)) #[.int .i64 x.k, .int .i64 x.n, .int .i64 x.s, .string x.t, .bool x.b] 24)
        unfold Hid
        simpa using this
      go_wp2_with (at_builtin; refine wpList_appV rfl _ _ rfl wr.heap.size _ [] rfl (OwnV.nil _ _) (wr.heap.size + 1) 0 _ x rfl HV.out (by decide) (by simp; omega) ?_)
      intro v' w5 hO5 hb5
      have hw5 := hw2.trans hb5
      go_wp2_with fail
      go_roundg (gk - 1)
      case measure => omega
      case rel => exact .inr ⟨by omega, by go_num, by simpa using hO5, hw5⟩
    · have HO := Lib.hid hO
      clear hO
      go_wp2_with fail
      go_returns
      exact ⟨_, rfl, HO.out, hwr⟩
end Go.Proofs.YtfagfkfcokmclaaGreatDoor
end
section
set_option linter.unusedSimpArgs false
set_option linter.unusedVariables false
set_option linter.constructorNameAsVariable false
namespace Go.Proofs.YtfagfkfcokmclaaGreatDoor
open Go.RowKit Go.Sort

/-- How many letters. -/
def sumT : List At → Nat
  | [] => 0
  | p :: r => p.t.size + sumT r
theorem sumT_app (xs ys : List At) : sumT (xs ++ ys) = sumT xs + sumT ys := by
  induction xs with
  | nil => simp [sumT]
  | cons p r ih => simp only [sumT, List.cons_append, ih]; omega
theorem sumT_take (xs : List At) (j : Nat) : sumT (xs.take j) ≤ sumT xs := by
  conv => rhs; rw [← List.take_append_drop j xs]
  rw [sumT_app]
  omega
set_option maxRecDepth 100000 in
set_option maxHeartbeats 800000 in
theorem values_any (xs : List At) (sv : Value) (a : Option Addr) (c : Nat) (w : World) (hI : ItRow w a xs) (hl : xs.length ≤ 100000000) (hsz : sumT xs ≤ 65536) :
    Calls Tryz.prog 67 #[sv, .slice a xs.length c] w fun e w' => ∃ v, e = .returned (.tuple #[v, .int .i64 0]) ∧ OwnV w.heap.size w' v xs ∧ Below w.heap.size w w' := by
  have HT := Lib.hid hI
  clear hI
  go_enter Tryz.func67, Tryz.ntmps67
  go_wp2_with fail
  go_loopg [6, 7, 13] (xs.length + 1) (fun m oo ss ii wr => ∃ (j sz : Nat), j ≤ xs.length ∧ m + j = xs.length + 1 ∧ ii = .int .i64 (j : Int) ∧ ss = .int .i64 (sz : Int) ∧ Hid (sz = sumT (xs.take j)) ∧ OwnV w.heap.size wr oo (xs.take j) ∧ Below w.heap.size w wr)
  case atStart => exact ⟨0, 0, by omega, by omega, rfl, rfl, rfl, OwnV.nil _ _, Below.refl _ _⟩
  case round =>
    obtain ⟨j, sz, hj, hmj, rfl, rfl, HZ, hO, hwr⟩ := hrel
    have HO := Lib.hid hO
    have hj0 : (0 : Int) ≤ (j : Int) := Int.natCast_nonneg _
    by_cases hlt : j < xs.length
    · have i0 : decide ((j : Int) < (xs.length : Int)) = true := by simp; omega
      have i6 : (j : Int) < (xs.length : Int) := by omega
      obtain ⟨x, hjx⟩ : ∃ x, xs[j]? = some x := ⟨_, List.getElem?_eq_getElem hlt⟩
      rcases HT.out with h0 | ⟨b, o, rfl, hb, hc⟩
      · rw [h0] at hlt; simp at hlt
      obtain ⟨u0, u1, u2, u3, u4, u5⟩ := hc j x hjx
      replace u0 := (hwr.cell (p := ⟨b, o + j * 6, none⟩) hb).trans u0
      replace u1 := (hwr.cell (p := ⟨b, o + j * 6 + 1, none⟩) hb).trans u1
      replace u2 := (hwr.cell (p := ⟨b, o + j * 6 + 2, none⟩) hb).trans u2
      replace u3 := (hwr.cell (p := ⟨b, o + j * 6 + 3, none⟩) hb).trans u3
      replace u4 := (hwr.cell (p := ⟨b, o + j * 6 + 4, none⟩) hb).trans u4
      replace u5 := (hwr.cell (p := ⟨b, o + j * 6 + 5, none⟩) hb).trans u5
      have lb := Nat.lt_of_lt_of_le hb hwr.size
      have htk : (xs.take j).length = j := by rw [List.length_take]; omega
      have hts : xs.take (j + 1) = xs.take j ++ [x] := by rw [List.take_add_one, hjx]; rfl
      have hsz2 : sz + x.t.size = sumT (xs.take (j + 1)) := by
        rw [hts, sumT_app, ← HZ.out]
        rfl
      have hsz3 := sumT_take xs (j + 1)
      have i8 : decide ((65536 : Int) < (sz : Int) + (x.t.size : Int)) = false := by simp; omega
      have i9 : sz + x.t.size ≤ 65536 := by omega
      have HTS := Lib.hid (And.intro hts hsz2)
      have hw2 : Below wr.heap.size wr ((wr.alloc (.cells #[.int .i64 0, .int .i64 x.k, .int .i64 x.n, .int .i64 x.s, .string x.t, .bool x.b] 28)).alloc (.cells #[.int .i64 0, .int .i64 x.k, .int .i64 x.n, .int .i64 x.s, .string x.t, .bool x.b] 28)) := ((Below.refl _ _).alloc (Nat.le_refl _) _).alloc (by simp) _
      have CA : Hid (Calls Tryz.prog 121 #[sv, .slice (some ⟨wr.heap.size + 1, 0, none⟩) 1 1] ((wr.alloc (.cells #[.int .i64 0, .int .i64 x.k, .int .i64 x.n, .int .i64 x.s, .string x.t, .bool x.b] 28)).alloc (.cells #[.int .i64 0, .int .i64 x.k, .int .i64 x.n, .int .i64 x.s, .string x.t, .bool x.b] 28)) fun e w' => ∃ v, e = .returned v ∧ OwnV (wr.heap.size + 1 + 1) w' v [x] ∧ Below (wr.heap.size + 1 + 1) ((wr.alloc (.cells #[.int .i64 0, .int .i64 x.k, .int .i64 x.n, .int .i64 x.s, .string x.t, .bool x.b] 28)).alloc (.cells #[.int .i64 0, .int .i64 x.k, .int .i64 x.n, .int .i64 x.s, .string x.t, .bool x.b] 28)) w') := by
        have hB := Blk.new (wr.alloc (.cells #[.int .i64 0, .int .i64 x.k, .int .i64 x.n, .int .i64 x.s, .string x.t, .bool x.b] 28)) #[.int .i64 0, .int .i64 x.k, .int .i64 x.n, .int .i64 x.s, .string x.t, .bool x.b] 28
        have := datoms_one x (wr.heap.size + 1) 1 sv _ (by simpa using hB)
        unfold Hid
        simpa using this
      clear hc hjx hO hts hsz2 hsz3
      go_wp2_with fail
      with_reducible refine CA.out.mono ?_
      rintro e w5 ⟨v1, rfl, h1, hb5⟩
      obtain ⟨a1, c1, rfl, hV, -⟩ := h1.read
      rcases hV with h9 | ⟨b1, o1, rfl, hb1, hc1⟩
      · cases h9
      obtain ⟨y0, y1, y2, y3, y4⟩ := hc1 0 x rfl
      have HV : Hid (VRow w5 (some ⟨b1, o1, none⟩) [x]) := .inr ⟨b1, o1, rfl, hb1, hc1⟩
      simp only [Nat.zero_mul, Nat.add_zero] at y0 y1 y2 y3 y4
      have hw5 := hw2.trans (hb5.mono (by omega))
      have HO5 := Lib.hid (HO.out.on hw5)
      have hww : Below w.heap.size w w5 := hwr.trans (hw5.mono hwr.size)
      have hs5 := hww.size
      clear hc1 h1 hb5 CA
      have e1 : ([x] : List At).length = 1 := rfl
      rw [e1]
      go_wp2_with (at_builtin; refine wpList_appV rfl _ _ rfl w.heap.size _ (xs.take j) rfl HO5.out b1 o1 _ x rfl HV.out (by omega) hs5 ?_)
      intro v' w6 hO6 hb6
      have hw6 := hww.trans hb6
      rw [← HTS.out.1] at hO6
      go_wp2_with fail
      go_roundg (gk - 1)
      case measure => omega
      case rel => exact ⟨j + 1, sz + x.t.size, by omega, by omega, by go_num, by go_num, HTS.out.2, hO6, hw6⟩
    · have i0 : decide ((j : Int) < (xs.length : Int)) = false := by simp; omega
      have hO' := hO
      rw [List.take_of_length_le (by omega)] at hO'
      have HO2 := Lib.hid hO'
      clear hO hO' HO
      go_wp2_with fail
      go_ret2
      exact ⟨_, rfl, HO2.out, hwr⟩
end Go.Proofs.YtfagfkfcokmclaaGreatDoor
end

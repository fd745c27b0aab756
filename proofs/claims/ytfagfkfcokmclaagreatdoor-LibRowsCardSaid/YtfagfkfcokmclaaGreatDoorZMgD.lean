/- Texts put together: DiA, DiB, DiC, DiD, DiE, DiF, DiG, DiH, DiI, DiJ, DiK. -/
import Derived.Test.YtfagfkfcokmclaaGreatDoorZMgA
import Derived.Laws.AppendOwnNone
import Derived.OwnWalk
import Derived.Test.YtfagfkfcokmclaaGreatDoorZWaB
import Derived.BigQuiet
import Derived.Test.YtfagfkfcokmclaaGreatDoorZMgC
/- Rows of ints that the call itself has made. -/
section
set_option linter.unusedSimpArgs false
set_option linter.unusedVariables false
namespace Go.Proofs.YtfagfkfcokmclaaGreatDoor
open Go.RowKit

theorem irow_owns {w : World} {base : Nat} {t : TypeId} {v : Value} {xs : List Int} (h : w.ownsRow base t 1 v xs.length (xs.map (Value.int .i64))) (hl : xs.length ≤ 1152921504606846976) : ∃ a cap, v = .slice a xs.length cap ∧ IRow w a xs.length xs ∧ xs.length ≤ cap := by
  obtain ⟨_, h⟩ := h
  rcases h with ⟨rfl, h0⟩ | ⟨g, cap, cur, rfl, _, hg, hc, _, hs, ht⟩
  · have : xs = [] := List.length_eq_zero_iff.1 h0
    subst this
    exact ⟨none, 0, rfl, IRow.nil _ _, Nat.le_refl _⟩
  · refine ⟨_, cap, rfl, ⟨rfl, hl, fun hn => ⟨g, 0, rfl, Blk.lt (show Blk w g cur t from hg), fun j x hx => ?_⟩⟩, hc⟩
    have hb : Blk w g cur t := hg
    rw [hb.cell]
    have hj : j < xs.length := by
      rcases Nat.lt_or_ge j xs.length with h' | h'
      · exact h'
      · simp [List.getElem?_eq_none h'] at hx
    have h1 : (cur.toList.take (xs.length * 1))[j]? = some (Value.int .i64 x) := by rw [ht]; simp [hx]
    rw [List.getElem?_take_of_lt (by omega)] at h1
    simpa using h1
/-- A row of the call's own, from block base on. -/
def ORow (w : World) (base : Nat) (v : Value) (xs : List Int) : Prop := w.ownsRow base 3 1 v xs.length (xs.map (Value.int .i64))
/-- A call that answers a row of its own and leaves what was there. -/
def Own (xs : List Int) (w : World) (e : Ending) (w' : World) : Prop := ∃ v, e = .returned v ∧ ORow w' w.heap.size v xs ∧ Below w.heap.size w w'
/-- .. where the marks are apart. -/
def OwnB (base : Nat) (xs : List Int) (w : World) (e : Ending) (w' : World) : Prop := ∃ v, e = .returned v ∧ ORow w' base v xs ∧ Below base w w'

theorem ORow.nil (w : World) (base : Nat) : ORow w base (.slice none 0 0) [] := ⟨rfl, .inl ⟨rfl, rfl⟩⟩
theorem ORow.cases {w : World} {base : Nat} {v : Value} {xs : List Int} (h : ORow w base v xs) : (v = .slice none 0 0 ∧ xs = []) ∨
    ∃ g cap cur, v = .slice (some ⟨g, 0, none⟩) xs.length cap ∧ base ≤ g ∧ w.heap[g]? = some (.cells cur 3 (0, 0)) ∧ xs.length ≤ cap ∧ cap ≤ maxLen ∧ cur.size = cap ∧ cur.toList.take xs.length = xs.map (Value.int .i64) := by
  obtain ⟨_, h⟩ := h
  rcases h with ⟨rfl, h0⟩ | ⟨g, cap, cur, rfl, h1, h2, h3, h4, h5, h6⟩
  · exact .inl ⟨rfl, List.length_eq_zero_iff.1 h0⟩
  · exact .inr ⟨g, cap, cur, rfl, h1, h2, h3, h4, by simpa using h5, by simpa using h6⟩
theorem ORow.mk' {w : World} {base g cap : Nat} {cur : Array Value} {xs : List Int} {n : Nat} (hn : xs.length = n) (h1 : base ≤ g) (h2 : w.heap[g]? = some (.cells cur 3 (0, 0))) (h3 : xs.length ≤ cap) (h4 : cap ≤ maxLen) (h5 : cur.size = cap) (h6 : cur.toList.take xs.length = xs.map (Value.int .i64)) :
    ORow w base (.slice (some ⟨g, 0, none⟩) n cap) xs := by
  subst hn
  exact ⟨by simp, .inr ⟨g, cap, cur, rfl, h1, h2, h3, h4, by simpa using h5, by simpa using h6⟩⟩
theorem ORow.below {w w' : World} {base m : Nat} {v : Value} {xs : List Int} (h : ORow w base v xs) (hb : Below m w w') (hm : w.heap.size ≤ m) : ORow w' base v xs := by
  rcases h.cases with ⟨rfl, rfl⟩ | ⟨g, cap, cur, rfl, h1, h2, h3, h4, h5, h6⟩
  · exact ORow.nil _ _
  · have hl : g < w.heap.size := Blk.lt (show Blk w g cur 3 from h2)
    exact ORow.mk' rfl h1 (by rw [hb.block g (by omega), h2]) h3 h4 h5 h6
theorem ORow.mono {w : World} {base base' : Nat} {v : Value} {xs : List Int} (h : ORow w base v xs) (hb : base' ≤ base) : ORow w base' v xs := by
  rcases h.cases with ⟨rfl, rfl⟩ | ⟨g, cap, cur, rfl, h1, h2, h3, h4, h5, h6⟩
  · exact ORow.nil _ _
  · exact ORow.mk' rfl (by omega) h2 h3 h4 h5 h6
theorem ORow.irow {w : World} {base : Nat} {v : Value} {xs : List Int} (h : ORow w base v xs) (hl : xs.length ≤ 1152921504606846976) : ∃ a cap, v = .slice a xs.length cap ∧ IRow w a xs.length xs ∧ xs.length ≤ cap := irow_owns h hl
theorem one_ints (xs : List Int) : ∀ v ∈ xs.map (Value.int .i64), v.oneCell' = true := by
  intro v hv
  obtain ⟨x, _, rfl⟩ := List.mem_map.1 hv
  rfl
theorem ORow.lit {w : World} {base : Nat} {v : Value} {xs : List Int} (h : ORow w base v xs) (hl : xs.length ≤ 2000000) : ∃ a cap, v = .slice a xs.length cap ∧ IRow w a xs.length xs := by
  obtain ⟨a, cap, h1, h2, -⟩ := h.irow (by omega)
  exact ⟨a, cap, h1, h2⟩
theorem irow3 (w : World) (x y z : Int) (t : TypeId) : IRow (w.alloc (.cells #[.int .i64 x, .int .i64 y, .int .i64 z] t)) (some ⟨w.heap.size, 0, none⟩) 3 [x, y, z] := IRow.new w [x, y, z] t (by simp)
theorem irow2 (w : World) (x y : Int) (t : TypeId) : IRow (w.alloc (.cells #[.int .i64 x, .int .i64 y] t)) (some ⟨w.heap.size, 0, none⟩) 2 [x, y] := IRow.new w [x, y] t (by simp)
theorem irow1 (w : World) (x : Int) (t : TypeId) : IRow (w.alloc (.cells #[.int .i64 x] t)) (some ⟨w.heap.size, 0, none⟩) 1 [x] := IRow.new w [x] t (by simp)
theorem infoI3 : (Tryz.prog.info? 3).map (fun i => (i.zero, i.size, i.bytes)) = some (some (.int .i64 0), 1, 8) := by kernel_rfl
theorem grown_below {w w' : World} {base : Nat} {v : Value} {xs : List Int} (h : ORow w base v xs) (hg : w.grownBy w' v.ownBlock) (hb : base ≤ w.heap.size) : Below base w w' :=
  (Below.refl base w).grown hg hb fun k hk => by
    rcases h.cases with ⟨rfl, _⟩ | ⟨g, cap, cur, rfl, h1, _⟩
    · simp [Value.ownBlock] at hk
    · simp [Value.ownBlock] at hk; omega
/-- 'append(own, row...)'. -/
theorem wpList_app {ops : Array Oper} {rest : List Oper} {o : Oper} {a : Act} {Q : Exit → Act → World → Prop} {w : World} (hgd : o.guard = none) (s x : Operand)
    (ho : o.op = .call { callee := .builtin .append, args := #[s, x], argTypes := #[41, 41] }) (base : Nat) (v : Value) (xs ys : List Int) (hs : a.eval s = v) (hown : ORow w base v xs)
    (ax : Option Addr) (m c : Nat) (hx : a.eval x = .slice ax m c) (hI : IRow w ax m ys) (h0 : ax = none → c = 0) (hl : xs.length + m ≤ 10000000) (hb : base ≤ w.heap.size)
    (h : ∀ v' w', ORow w' base v' (xs ++ ys) → Below base w w' → wpList Tryz.prog ops Q rest (a.put o.dst v') w') : wpList Tryz.prog ops Q (o :: rest) a w := by
  obtain ⟨i0, hi, hz0, hz1, hz2⟩ := info_parts infoI3
  obtain ⟨rfl, -, hc⟩ := hI
  cases ax with
  | none =>
    have hy : ys = [] := by
      rcases Nat.eq_zero_or_pos ys.length with h | h
      · exact List.length_eq_zero_iff.1 h
      · obtain ⟨b, o, hh, -⟩ := hc h
        cases hh
    subst hy
    obtain rfl := h0 rfl
    exact wpList_append_own_none hgd s x 41 ho base 3 i0 1 Tryz.underlying41 hi v xs.length (xs.map (Value.int .i64)) hs hown hx (h v w (by rw [List.append_nil]; exact hown) (Below.refl _ _))
  | some ad =>
    refine wpList_append_own w hgd s x 41 ho base 3 i0 (.int .i64 0) 1 8 Tryz.underlying41 hi hz0 hz1 hz2 rfl (by decide) v xs.length (xs.map (Value.int .i64)) hs hown ad ys.length c (ys.map (Value.int .i64)) hx (by simp) (fun j u hj => ?_) (one_ints ys) (by unfold maxLen; omega) (by omega) hb (fun v' w' h1 h2 _ => h v' w' ?_ (grown_below hown h2 hb))
    · have hj' : j < ys.length := by
        rcases Nat.lt_or_ge j ys.length with h | h
        · exact h
        · rw [List.getElem?_eq_none (by simp; omega)] at hj; cases hj
      obtain ⟨b, q, he, hl, hcell⟩ := hc (by omega)
      cases he
      simp only [List.getElem?_map] at hj
      obtain ⟨y, hy, rfl⟩ := Option.map_eq_some_iff.1 hj
      have := hcell j y hy
      by_cases h0 : j = 0 <;> simp_all [Addr.add]
    · unfold ORow
      simpa using h1


theorem ORow.other {w : World} {base : Nat} {v : Value} {xs : List Int} (h : ORow w base v xs) {ad : Addr} (hb : ad.block < base) (u : Value) : ORow (w.setCell ad u) base v xs := by
  rcases h.cases with ⟨rfl, rfl⟩ | ⟨g, cap, cur, rfl, h1, h2, h3, h4, h5, h6⟩
  · exact ORow.nil _ _
  · exact ORow.mk' rfl h1 (Blk.other (show Blk w g cur 3 from h2) (by omega) u) h3 h4 h5 h6
/-- A row that lies somewhere, as a value; where there is something in it: from block base on. -/
def DRow (w : World) (base : Nat) (v : Value) (xs : List Int) : Prop := ∃ a c, v = .slice a xs.length c ∧ IRow w a xs.length xs ∧ xs.length ≤ c ∧ (a = none → c = 0) ∧ (0 < xs.length → ∀ b o, a = some ⟨b, o, none⟩ → base ≤ b)
theorem DRow.below {w w' : World} {v : Value} {base m : Nat} {xs : List Int} (h : DRow w base v xs) (hb : Below m w w') (hm : w.heap.size ≤ m) : DRow w' base v xs := by
  obtain ⟨a, c, h1, h2, h3⟩ := h
  exact ⟨a, c, h1, h2.below hb hm, h3⟩
theorem DRow.mono {w : World} {v : Value} {base m : Nat} {xs : List Int} (h : DRow w base v xs) (hm : m ≤ base) : DRow w m v xs := by
  obtain ⟨a, c, h1, h2, h3, h4, h5⟩ := h
  exact ⟨a, c, h1, h2, h3, h4, fun h b o e => Nat.le_trans hm (h5 h b o e)⟩
theorem IRow.other {w : World} {a : Option Addr} {n : Nat} {xs : List Int} (h : IRow w a n xs) {ad : Addr} (u : Value) (hne : 0 < n → ∀ b o, a = some ⟨b, o, none⟩ → b ≠ ad.block) : IRow (w.setCell ad u) a n xs := by
  refine ⟨h.1, h.2.1, fun hn => ?_⟩
  obtain ⟨b, o, e, hl, hc⟩ := h.2.2 hn
  have := hne hn b o e
  refine ⟨b, o, e, by simpa using hl, fun j x hx => ?_⟩
  rw [← hc j x hx]
  have hh : (w.setCell ad u).heap[b]? = w.heap[b]? := Below.heap_setCell _ _ _ _ this
  simp [World.cell?, hh]
theorem DRow.other {w : World} {v : Value} {base : Nat} {xs : List Int} (h : DRow w base v xs) {ad : Addr} (hb : ad.block < base) (u : Value) : DRow (w.setCell ad u) base v xs := by
  obtain ⟨a, c, h1, h2, h3, h4, h5⟩ := h
  exact ⟨a, c, h1, h2.other u (fun h b o e => by have := h5 h b o e; omega), h3, h4, h5⟩
theorem DRow.nil (w : World) (base : Nat) : DRow w base (.slice none 0 0) [] := ⟨none, 0, rfl, IRow.nil _ _, Nat.le_refl _, fun _ => rfl, fun h => by simp at h⟩
theorem ORow.drow {w : World} {base : Nat} {v : Value} {xs : List Int} (h : ORow w base v xs) (hl : xs.length ≤ 1152921504606846976) : DRow w base v xs := by
  rcases h.cases with ⟨rfl, rfl⟩ | ⟨g, cap, cur, rfl, h1, h2, h3, h4, h5, h6⟩
  · exact DRow.nil w base
  · obtain ⟨a, c, e, hi, hc⟩ := h.irow hl
    cases e
    exact ⟨_, _, rfl, hi, hc, (fun h => by cases h), (fun _ b o e => by cases e; exact h1)⟩
end Go.Proofs.YtfagfkfcokmclaaGreatDoor
end

/- The document's numbers: an int's digits. -/
section
set_option linter.unusedSimpArgs false
set_option linter.unusedVariables false
namespace Go.Proofs.YtfagfkfcokmclaaGreatDoor
open Go.RowKit

theorem digs_len (n : Nat) (h : n < 10000000000000000000) : (digs n).length ≤ 19 := by
  obtain ⟨h1, h2, h3, -⟩ := digs_spec n
  refine len_le h2 h3 19 ?_
  rw [h1]
  omega
set_option maxRecDepth 100000 in
set_option maxHeartbeats 2000000 in
theorem rof_any (n : Int) (h0 : -9223372036854775808 ≤ n) (h1 : n ≤ 9223372036854775807) (w : World) : Calls Tryz.prog 56 #[.int .i64 n] w fun e w' =>
    ∃ v, e = .returned (.agg #[.bool (decide (n < 0)), v]) ∧ ORow w' w.heap.size v (digs n.natAbs) ∧ Below w.heap.size w w' := by
  go_enter Tryz.func56, Tryz.ntmps56
  go_wp2_with fail
  go_loopg [0] (n.natAbs) (fun m xv wr => ∃ (x : Int) (xs : List Int) (v : Value), m = x.natAbs ∧ xv = .int .i64 x ∧ x.natAbs ≤ n.natAbs ∧ -9223372036854775808 ≤ x ∧ x ≤ 9223372036854775807 ∧ Below w.heap.size w wr ∧ Blk wr w.heap.size #[.bool false, .slice none 0 0] 79 ∧ Blk wr (w.heap.size + 1) #[.bool (decide (n < 0)), v] 79 ∧ ORow wr (w.heap.size + 2) v xs ∧ digs n.natAbs = xs ++ digs x.natAbs)
  case atStart =>
    refine ⟨n, [], _, rfl, rfl, Nat.le_refl _, h0, h1, ?_, ?_, ?_, ORow.nil _ _, rfl⟩
    · go_grown
    · exact Blk.alloc (Blk.here rfl rfl) _
    · exact Blk.here rfl (by simp)
  case round =>
    obtain ⟨x, xs, v, hm, rfl, hx, hx0, hx1, hw, E0, E1, hO, hd⟩ := hrel
    have k0 : w.heap.size < wr.heap.size := E0.lt
    have k1 : w.heap.size + 1 < wr.heap.size := E1.lt
    obtain ⟨c00, c01, f00, f01⟩ := E0.two
    obtain ⟨c10, c11, f10, f11⟩ := E1.two
    have hxl : xs.length ≤ 19 := by
      have := digs_len n.natAbs (by omega)
      rw [hd, List.length_append] at this
      omega
    cases e0 : (x == 0)
    · have hx' : x.natAbs ≠ 0 := by simp at e0; omega
      have hq1 : (x.tdiv 10).natAbs = x.natAbs / 10 := by rw [Int.natAbs_tdiv]; rfl
      have hr1 : (x.tmod 10).natAbs = x.natAbs % 10 := by rw [Int.natAbs_tmod]; rfl
      have hq : IntKind.i64.wrap (x.tdiv 10) = x.tdiv 10 := IntWalk.i64_in _ (by omega)
      have hr : IntKind.i64.wrap (x.tmod 10) = x.tmod 10 := IntWalk.i64_in _ (by omega)
      rw [digs_step hx', ← hq1, ← hr1] at hd
      have H := Lib.hid hO
      have HD := Lib.hid hd
      clear hO hd
      obtain ⟨y, hy, hyx, hy0, hy1⟩ : ∃ y, x.tdiv 10 = y ∧ y.natAbs < x.natAbs ∧ -9223372036854775808 ≤ y ∧ y ≤ 9223372036854775807 := ⟨_, rfl, by omega, by omega, by omega⟩
      obtain ⟨r, hr', d, hd'⟩ : ∃ r, x.tmod 10 = r ∧ ∃ d, ((x.tmod 10).natAbs : Int) = d := ⟨_, rfl, _, rfl⟩
      rw [hy] at hq HD
      rw [hd'] at HD
      rw [hr'] at hr hr1 hd'
      have hcs : (decide (r < 0) = false ∧ r = d) ∨ (decide (r < 0) = true ∧ IntKind.i64.wrap (-r) = d) := by
        rcases Int.lt_or_le r 0 with h | h
        · exact .inr ⟨by simpa using h, by rw [IntWalk.i64_in _ (by omega)]; omega⟩
        · exact .inl ⟨by simpa using h, by omega⟩
      clear hd' hr1 hq1
      rcases hcs with ⟨e1, rfl⟩ | ⟨e1, hd1⟩
      all_goals
        go_wp2_with (at_builtin; refine wpList_app rfl _ _ rfl (w.heap.size + 2) _ _ [_] rfl (H.out.below ((Below.refl _ _).alloc (Nat.le_refl _) (.cells #[.int .i64 _] 3)) (Nat.le_refl _)) (some ⟨wr.heap.size, 0, none⟩) 1 1 rfl (irow1 _ _ _) (fun h => by cases h) ?c1 ?c2 ?_)
        case c1 => simp; omega
        case c2 => have := hw.size; simp; omega
        intro v' w1 hO1 hb1
        obtain ⟨a', c', hv', hI⟩ := hO1.lit (by simp; omega)
        rw [List.length_append, List.length_singleton] at hv'
        subst hv'
        have F0 := (E0.alloc (.cells #[.int .i64 _] 3)).below hb1 (by omega)
        have F1 := (E1.alloc (.cells #[.int .i64 _] 3)).below hb1 (by omega)
        have hw1 : Below w.heap.size w w1 := (hw.alloc hw.size _).trans (hb1.mono (by omega))
        have l0 : w.heap.size < w1.heap.size := F0.lt
        have l1 : w.heap.size + 1 < w1.heap.size := F1.lt
        have H1 := Lib.hid hO1
        clear hO1 hI c00 c01 f00 f01 c10 c11 f10 f11 E0 E1 H hb1
        obtain ⟨c00, c01, f00, f01⟩ := F0.two
        obtain ⟨c10, c11, f10, f11⟩ := F1.two
        go_wp2_with fail
        go_roundg (y.natAbs)
        case measure => omega
        case rel =>
          refine ⟨y, _, _, rfl, rfl, by omega, hy0, hy1, ?_, ?_, ?_, H1.out.other (by simp) _, by rw [HD.out, List.append_assoc]; rfl⟩
          · go_grown
            all_goals first | exact hw1 | exact hw1.size | omega
          · exact F0.other (by simp) _
          · exact F1.set 1 _
    · have hx' : x = 0 := by simpa using e0
      subst hx'
      rw [show (0 : Int).natAbs = 0 from rfl, digs_zero, List.append_nil] at hd
      obtain ⟨a', c', rfl, hI⟩ := hO.lit (by omega)
      have H := Lib.hid hO
      have HD := Lib.hid hd
      clear hO hd hI
      go_wp2_with fail
      refine bodyPost_ret (v := .agg #[.bool (decide (n < 0)), .slice a' xs.length c']) (by simp [results, Tryz.results56, go_sem, c00, c01, f00, f01]) rfl ⟨_, rfl, ?_, ?_⟩
      · rw [HD.out]
        exact ((H.out.other (by simp) _).other (by simp) _).mono (by omega)
      · go_grown
        all_goals first | exact hw | exact hw.size | omega
end Go.Proofs.YtfagfkfcokmclaaGreatDoor
end

/- The document's numbers: without noughts at the end. -/
section
set_option linter.unusedSimpArgs false
set_option linter.unusedVariables false
namespace Go.Proofs.YtfagfkfcokmclaaGreatDoor
open Go.RowKit

theorem irow_at {w : World} {a : Option Addr} {n : Nat} {xs : List Int} (h : IRow w a n xs) {j : Nat} {x : Int} (hj : xs[j]? = some x) : ∃ b o, a = some ⟨b, o, none⟩ ∧ b < w.heap.size ∧ w.cell? ⟨b, o + j, none⟩ = some (.int .i64 x) := by
  obtain ⟨h1, -, h3⟩ := h
  have : j < xs.length := by
    rcases Nat.lt_or_ge j xs.length with h' | h'
    · exact h'
    · rw [List.getElem?_eq_none h'] at hj; cases hj
  obtain ⟨b, o, rfl, hb, hc⟩ := h3 (by omega)
  exact ⟨b, o, rfl, hb, hc j x hj⟩
theorem irow_take {w : World} {a : Option Addr} {n : Nat} {xs : List Int} (h : IRow w a n xs) (k : Nat) (hk : k ≤ n) : IRow w a k (xs.take k) := by
  obtain ⟨h1, h2, h3⟩ := h
  refine ⟨by rw [List.length_take]; omega, by omega, fun h0 => ?_⟩
  obtain ⟨b, o, e, hb, hc⟩ := h3 (by omega)
  refine ⟨b, o, e, hb, fun j x hx => hc j x ?_⟩
  rw [List.getElem?_take] at hx
  split at hx
  · exact hx
  · cases hx
theorem trim_row {w : World} {a : Option Addr} {xs : List Int} (h : IRow w a xs.length xs) : IRow w a (trimL xs).length (trimL xs) ∧ (trimL xs).length ≤ xs.length := by
  obtain ⟨-, -, -, k, e, hk⟩ := trimL_spec xs
  have hl : (xs.take k).length = k := by simp; omega
  rw [e, hl]
  exact ⟨irow_take h k hk, hk⟩
theorem at_lt (xs : List Int) {j : Nat} (hj : j < xs.length) : ∃ x, xs[j]? = some x ∧ xs.take (j + 1) = xs.take j ++ [x] := ⟨xs[j], by simp [hj], by rw [List.take_add_one]; simp [hj]⟩
set_option maxRecDepth 100000 in
set_option maxHeartbeats 2000000 in
theorem trim_any (a : Option Addr) (c : Nat) (xs : List Int) (w : World) (hI : IRow w a xs.length xs) (hc : xs.length ≤ c) (h0 : a = none → c = 0) (hl : xs.length ≤ 2000000) : Calls Tryz.prog 58 #[.slice a xs.length c] w fun e w' =>
    e = .returned (.slice a (trimL xs).length c) ∧ w = w' := by
  have HI := Lib.hid hI
  clear hI
  go_enter Tryz.func58, Tryz.ntmps58
  go_wp2_with fail
  go_loopg [3] (xs.length) (fun m xv wr => m ≤ xs.length ∧ xv = .int .i64 (m : Int) ∧ trimL xs = trimL (xs.take m) ∧ wr = w)
  case atStart => exact ⟨Nat.le_refl _, rfl, by rw [List.take_of_length_le (Nat.le_refl _)], rfl⟩
  case round =>
    obtain ⟨hm, rfl, ht, rfl⟩ := hrel
    cases gk with
    | zero =>
      rw [List.take_zero, trimL_nil] at ht
      have HT := Lib.hid ht
      clear ht
      go_wp2_with fail
      refine bodyPost_ret (v := .slice a 0 c) (by simp [results, Tryz.results58, go_sem]) rfl ⟨by rw [HT.out]; rfl, rfl⟩
    | succ j =>
      obtain ⟨x, hx, hxt⟩ := at_lt xs (show j < xs.length by omega)
      obtain ⟨b, o, rfl, hb, y0⟩ := irow_at HI.out hx
      rw [hxt, trimL_snoc] at ht
      have HT := Lib.hid ht
      clear ht hx
      have i1 : (0 : Int) < ((j + 1 : Nat) : Int) := by omega
      have i2 : ((j + 1 : Nat) : Int) - 1 = (j : Int) := by omega
      have i3 : IntKind.i64.wrap ((j : Int) + 1 - 1) = (j : Int) := by rw [IntWalk.i64_in _ (by omega)]; omega
      cases e1 : (x == 0)
      · go_wp2_with fail
        refine bodyPost_ret (v := .slice (some ⟨b, o, none⟩) (j + 1) c) (by simp [results, Tryz.results58, go_sem]) rfl ⟨?_, rfl⟩
        have e := HT.out
        rw [e1, if_neg (by simp), ← hxt] at e
        have hlen : (xs.take (j + 1)).length = j + 1 := by simp; omega
        rw [e, hlen]
      · go_wp2_with fail
        go_roundg j
        case measure => omega
        case rel =>
          refine ⟨by omega, rfl, ?_, rfl⟩
          rw [HT.out, e1, if_pos rfl]
end Go.Proofs.YtfagfkfcokmclaaGreatDoor
end

/- The document's numbers: digits compared. -/
section
set_option linter.unusedSimpArgs false
set_option linter.unusedVariables false
namespace Go.Proofs.YtfagfkfcokmclaaGreatDoor
open Go.RowKit

theorem getD_at {xs : List Int} {j : Nat} {x : Int} (h : xs[j]? = some x) : xs.getD j 0 = x := by rw [List.getD, h]; rfl
set_option maxRecDepth 100000 in
set_option maxHeartbeats 2000000 in
theorem dcmp_any (a b : Option Addr) (c d : Nat) (xs ys : List Int) (w : World) (hI : IRow w a xs.length xs) (hJ : IRow w b ys.length ys) (hl : xs.length ≤ 2000000) (hm : ys.length ≤ 2000000) : Calls Tryz.prog 117 #[.slice a xs.length c, .slice b ys.length d] w fun e w' =>
    e = .returned (.int .i64 (cmpL xs ys)) ∧ Below w.heap.size w w' := by
  have HI := Lib.hid hI
  have HJ := Lib.hid hJ
  clear hI hJ
  cases e0 : ((xs.length : Int) == (ys.length : Int))
  · have hne : (xs.length == ys.length) = false := by simp at e0 ⊢; omega
    cases e1 : decide (xs.length < ys.length)
    · have hc : cmpL xs ys = 1 := by
        have h : ¬ xs.length < ys.length := by simp at e1; omega
        unfold cmpL; rw [hne]; simp [h]
      rw [hc]
      clear hc hne
      go_enter Tryz.func117, Tryz.ntmps117
      go_wp2_with fail
      go_returns
      exact ⟨rfl, Below.refl _ _⟩
    · have hc : cmpL xs ys = -1 := by
        have h : xs.length < ys.length := by simp at e1; omega
        unfold cmpL; rw [hne]; simp [h]
      rw [hc]
      clear hc hne
      go_enter Tryz.func117, Tryz.ntmps117
      go_wp2_with fail
      go_returns
      exact ⟨rfl, Below.refl _ _⟩
  · have he : xs.length = ys.length := by simp at e0; omega
    have hc : cmpL xs ys = cmpI xs ys xs.length := by unfold cmpL; rw [he]; simp
    rw [hc]
    obtain ⟨r, hr⟩ : ∃ r, r = cmpI xs ys xs.length := ⟨_, rfl⟩
    rw [← hr]
    have HR := Lib.hid hr
    clear hr hc
    go_enter Tryz.func117, Tryz.ntmps117
    go_wp2_with fail
    go_loopg [5] (xs.length) (fun m xv wr => m ≤ xs.length ∧ xv = .int .i64 ((m : Int) - 1) ∧ r = cmpI xs ys m ∧ Below w.heap.size w wr)
    case atStart =>
      exact ⟨Nat.le_refl _, by rw [he], HR.out, Below.refl _ _⟩
    case round =>
      obtain ⟨hm', rfl, ht, hw⟩ := hrel
      cases gk with
      | zero =>
        have ht : r = 0 := ht
        subst ht
        go_wp2_with fail
        go_returns
        exact ⟨rfl, hw⟩
      | succ j =>
        obtain ⟨x, hx, -⟩ := at_lt xs (show j < xs.length by omega)
        obtain ⟨y, hy, -⟩ := at_lt ys (show j < ys.length by omega)
        obtain ⟨p, o, rfl, hp, y0⟩ := irow_at HI.out hx
        obtain ⟨q, t, rfl, hq, y1⟩ := irow_at HJ.out hy
        have z0 := (hw.cell (p := ⟨p, o + j, none⟩) hp).trans y0
        have z1 := (hw.cell (p := ⟨q, t + j, none⟩) hq).trans y1
        rw [cmpI, getD_at hx, getD_at hy] at ht
        have HT := Lib.hid ht
        clear ht hx hy y0 y1
        have i1 : ((j + 1 : Nat) : Int) - 1 = (j : Int) := by omega
        have i3 : IntKind.i64.wrap ((j : Int) - 1) = (j : Int) - 1 := IntWalk.i64_in _ (by omega)
        have hj1 : j < xs.length := by omega
        have hj2 : j < ys.length := by omega
        cases e1 : (x == y)
        · cases e2 : decide (x < y)
          · have hr : r = 1 := by rw [HT.out, e1, e2]; rfl
            subst hr
            go_wp2_with fail
            go_quiet (fail)
            go_wp2_with fail
            go_quiet (fail)
            go_wp2_with fail
            go_returns
            exact ⟨rfl, below_drewN (below_drewN hw _) _⟩
          · have hr : r = -1 := by rw [HT.out, e1, e2]; rfl
            subst hr
            go_wp2_with fail
            go_quiet (fail)
            go_wp2_with fail
            go_quiet (fail)
            go_wp2_with fail
            go_returns
            exact ⟨rfl, below_drewN (below_drewN hw _) _⟩
        · go_wp2_with fail
          go_quiet (fail)
          go_wp2_with fail
          go_roundg j
          case measure => omega
          case rel =>
            exact ⟨by omega, rfl, by rw [HT.out, e1]; rfl, below_drewN hw _⟩
end Go.Proofs.YtfagfkfcokmclaaGreatDoor
end

/- The document's numbers: digits added. -/
section
set_option linter.unusedSimpArgs false
set_option linter.unusedVariables false
namespace Go.Proofs.YtfagfkfcokmclaaGreatDoor
open Go.RowKit

theorem drop_at {xs : List Int} {j : Nat} {x : Int} (h : xs[j]? = some x) : xs.drop j = x :: xs.drop (j + 1) := by
  have hj : j < xs.length := by
    rcases Nat.lt_or_ge j xs.length with h' | h'
    · exact h'
    · rw [List.getElem?_eq_none h'] at h; cases h
  rw [List.getElem?_eq_getElem hj] at h
  cases h
  exact List.drop_eq_getElem_cons hj
set_option maxRecDepth 100000 in
set_option maxHeartbeats 8000000 in
theorem dplus_any (a b : Option Addr) (c d : Nat) (xs ys : List Int) (w : World) (hI : IRow w a xs.length xs) (hJ : IRow w b ys.length ys) (gx : Dg xs) (gy : Dg ys) (hl : xs.length ≤ 2000000) (hm : ys.length ≤ 2000000) : Calls Tryz.prog 116 #[.slice a xs.length c, .slice b ys.length d] w fun e w' =>
    ∃ v, e = .returned v ∧ ORow w' w.heap.size v (plusL xs ys 0) ∧ Below w.heap.size w w' := by
  have HI := Lib.hid hI
  have HJ := Lib.hid hJ
  have GX := Lib.hid gx
  have GY := Lib.hid gy
  clear hI hJ gx gy
  obtain ⟨M, hM⟩ : ∃ M, M = max xs.length ys.length := ⟨_, rfl⟩
  have hM1 : xs.length ≤ M := by omega
  have hM2 : ys.length ≤ M := by omega
  have hM3 : M ≤ 2000000 := by omega
  clear hM
  go_enter Tryz.func116, Tryz.ntmps116
  go_wp2_with fail
  go_loopg [5, 6, 7] (M + 1) (fun m ov cv iv wr => ∃ (i : Nat) (cr : Int) (zs : List Int), m + i = M + 1 ∧ (i ≤ M ∨ cr = 0) ∧ iv = .int .i64 (i : Int) ∧ cv = .int .i64 cr ∧ 0 ≤ cr ∧ cr ≤ 1 ∧ zs.length = i ∧ ORow wr w.heap.size ov zs ∧ plusL xs ys 0 = zs ++ plusL (xs.drop i) (ys.drop i) cr ∧ Below w.heap.size w wr)
  case atStart => exact ⟨0, 0, [], by omega, .inl (by omega), rfl, rfl, by omega, by omega, rfl, ORow.nil _ _, rfl, Below.refl _ _⟩
  case round =>
    obtain ⟨i, cr, zs, hmi, hic, rfl, rfl, hc0, hc1, hz, hO, hp, hw⟩ := hrel
    have hi0 : (0 : Int) ≤ (i : Int) := Int.natCast_nonneg _
    have j3 : IntKind.i64.wrap ((i : Int) + 1) = (i : Int) + 1 := IntWalk.i64_in _ (by omega)
    by_cases hx0 : i < xs.length
    · by_cases hy0 : i < ys.length
      · obtain ⟨x, hx, -⟩ := at_lt xs hx0
        obtain ⟨p, o, rfl, hpb, y0⟩ := irow_at HI.out hx
        have z0 := (hw.cell (p := ⟨p, o + i, none⟩) hpb).trans y0
        have gx := GX.out.at hx
        rw [drop_at hx] at hp
        clear y0
        obtain ⟨y, hy, -⟩ := at_lt ys hy0
        obtain ⟨q, t, rfl, hqb, y1⟩ := irow_at HJ.out hy
        have z1 := (hw.cell (p := ⟨q, t + i, none⟩) hqb).trans y1
        have gy := GY.out.at hy
        rw [drop_at hy] at hp
        clear y1
        have i1 : decide ((i : Int) < (xs.length : Int)) = true := by simp; omega
        have i2 : decide ((i : Int) < (ys.length : Int)) = true := by simp; omega
        rw [plusL] at hp
        have s1 : IntKind.i64.wrap (cr + x) = cr + x := IntWalk.i64_in _ (by omega)
        have s2 : IntKind.i64.wrap (cr + x + y) = cr + x + y := IntWalk.i64_in _ (by omega)
        obtain ⟨s, hs⟩ : ∃ s, cr + x + y = s := ⟨_, rfl⟩
        rw [hs] at s2
        obtain ⟨sd, hsd⟩ : ∃ sd, s.tmod 10 = sd := ⟨_, rfl⟩
        obtain ⟨sc, hsc⟩ : ∃ sc, s.tdiv 10 = sc := ⟨_, rfl⟩
        have tm : s.tmod 10 = s % 10 := Int.tmod_eq_emod_of_nonneg (by omega)
        have td : s.tdiv 10 = s / 10 := Int.tdiv_eq_ediv_of_nonneg (by omega)
        have w1' : IntKind.i64.wrap sd = sd := IntWalk.i64_in _ (by omega)
        have w2' : IntKind.i64.wrap sc = sc := IntWalk.i64_in _ (by omega)
        have sc0 : 0 ≤ sc ∧ sc ≤ 1 := by omega
        rw [show (x + y + cr) % 10 = sd by omega, show (x + y + cr) / 10 = sc by omega] at hp
        have HP := Lib.hid hp
        have H := Lib.hid hO
        clear hp hO tm td
        go_wp2_with (at_builtin; refine wpList_app rfl _ _ rfl w.heap.size _ _ [sd] rfl (H.out.below ((Below.refl _ _).alloc (Nat.le_refl _) (.cells #[.int .i64 sd] 3)) (Nat.le_refl _)) (some ⟨wr.heap.size, 0, none⟩) 1 1 rfl (irow1 _ _ _) (fun h => by cases h) ?c1 ?c2 ?_)
        case c1 => simp; omega
        case c2 => have := hw.size; simp; omega
        intro v' w1 hO1 hb1
        have H1 := Lib.hid hO1
        clear hO1
        go_wp2_with fail
        go_roundg (gk - 1)
        case measure => omega
        case rel => exact ⟨i + 1, sc, zs ++ [sd], by omega, .inl (by omega), by go_num, rfl, sc0.1, sc0.2, by simp; omega, H1.out, by rw [HP.out, List.append_assoc]; rfl, (hw.alloc hw.size _).trans hb1⟩
      · obtain ⟨x, hx, -⟩ := at_lt xs hx0
        obtain ⟨p, o, rfl, hpb, y0⟩ := irow_at HI.out hx
        have z0 := (hw.cell (p := ⟨p, o + i, none⟩) hpb).trans y0
        have gx := GX.out.at hx
        rw [drop_at hx] at hp
        clear y0
        have i1 : decide ((i : Int) < (xs.length : Int)) = true := by simp; omega
        have i2 : decide ((i : Int) < (ys.length : Int)) = false := by simp; omega
        rw [List.drop_eq_nil_of_le (show ys.length ≤ i by omega)] at hp
        rw [plusL] at hp
        rw [show ([] : List Int) = ys.drop (i + 1) from (List.drop_eq_nil_of_le (by omega)).symm] at hp
        have s1 : IntKind.i64.wrap (cr + x) = cr + x := IntWalk.i64_in _ (by omega)
        obtain ⟨s, hs⟩ : ∃ s, cr + x = s := ⟨_, rfl⟩
        rw [hs] at s1
        obtain ⟨sd, hsd⟩ : ∃ sd, s.tmod 10 = sd := ⟨_, rfl⟩
        obtain ⟨sc, hsc⟩ : ∃ sc, s.tdiv 10 = sc := ⟨_, rfl⟩
        have tm : s.tmod 10 = s % 10 := Int.tmod_eq_emod_of_nonneg (by omega)
        have td : s.tdiv 10 = s / 10 := Int.tdiv_eq_ediv_of_nonneg (by omega)
        have w1' : IntKind.i64.wrap sd = sd := IntWalk.i64_in _ (by omega)
        have w2' : IntKind.i64.wrap sc = sc := IntWalk.i64_in _ (by omega)
        have sc0 : 0 ≤ sc ∧ sc ≤ 1 := by omega
        rw [show (x + cr) % 10 = sd by omega, show (x + cr) / 10 = sc by omega] at hp
        have HP := Lib.hid hp
        have H := Lib.hid hO
        clear hp hO tm td
        go_wp2_with (at_builtin; refine wpList_app rfl _ _ rfl w.heap.size _ _ [sd] rfl (H.out.below ((Below.refl _ _).alloc (Nat.le_refl _) (.cells #[.int .i64 sd] 3)) (Nat.le_refl _)) (some ⟨wr.heap.size, 0, none⟩) 1 1 rfl (irow1 _ _ _) (fun h => by cases h) ?c1 ?c2 ?_)
        case c1 => simp; omega
        case c2 => have := hw.size; simp; omega
        intro v' w1 hO1 hb1
        have H1 := Lib.hid hO1
        clear hO1
        go_wp2_with fail
        go_roundg (gk - 1)
        case measure => omega
        case rel => exact ⟨i + 1, sc, zs ++ [sd], by omega, .inl (by omega), by go_num, rfl, sc0.1, sc0.2, by simp; omega, H1.out, by rw [HP.out, List.append_assoc]; rfl, (hw.alloc hw.size _).trans hb1⟩
    · by_cases hy0 : i < ys.length
      · obtain ⟨y, hy, -⟩ := at_lt ys hy0
        obtain ⟨q, t, rfl, hqb, y1⟩ := irow_at HJ.out hy
        have z1 := (hw.cell (p := ⟨q, t + i, none⟩) hqb).trans y1
        have gy := GY.out.at hy
        rw [drop_at hy] at hp
        clear y1
        have i1 : decide ((i : Int) < (xs.length : Int)) = false := by simp; omega
        have i2 : decide ((i : Int) < (ys.length : Int)) = true := by simp; omega
        rw [List.drop_eq_nil_of_le (show xs.length ≤ i by omega)] at hp
        rw [plusL] at hp
        rw [show ([] : List Int) = xs.drop (i + 1) from (List.drop_eq_nil_of_le (by omega)).symm] at hp
        have s1 : IntKind.i64.wrap (cr + y) = cr + y := IntWalk.i64_in _ (by omega)
        obtain ⟨s, hs⟩ : ∃ s, cr + y = s := ⟨_, rfl⟩
        rw [hs] at s1
        obtain ⟨sd, hsd⟩ : ∃ sd, s.tmod 10 = sd := ⟨_, rfl⟩
        obtain ⟨sc, hsc⟩ : ∃ sc, s.tdiv 10 = sc := ⟨_, rfl⟩
        have tm : s.tmod 10 = s % 10 := Int.tmod_eq_emod_of_nonneg (by omega)
        have td : s.tdiv 10 = s / 10 := Int.tdiv_eq_ediv_of_nonneg (by omega)
        have w1' : IntKind.i64.wrap sd = sd := IntWalk.i64_in _ (by omega)
        have w2' : IntKind.i64.wrap sc = sc := IntWalk.i64_in _ (by omega)
        have sc0 : 0 ≤ sc ∧ sc ≤ 1 := by omega
        rw [show (y + cr) % 10 = sd by omega, show (y + cr) / 10 = sc by omega] at hp
        have HP := Lib.hid hp
        have H := Lib.hid hO
        clear hp hO tm td
        go_wp2_with (at_builtin; refine wpList_app rfl _ _ rfl w.heap.size _ _ [sd] rfl (H.out.below ((Below.refl _ _).alloc (Nat.le_refl _) (.cells #[.int .i64 sd] 3)) (Nat.le_refl _)) (some ⟨wr.heap.size, 0, none⟩) 1 1 rfl (irow1 _ _ _) (fun h => by cases h) ?c1 ?c2 ?_)
        case c1 => simp; omega
        case c2 => have := hw.size; simp; omega
        intro v' w1 hO1 hb1
        have H1 := Lib.hid hO1
        clear hO1
        go_wp2_with fail
        go_roundg (gk - 1)
        case measure => omega
        case rel => exact ⟨i + 1, sc, zs ++ [sd], by omega, .inl (by omega), by go_num, rfl, sc0.1, sc0.2, by simp; omega, H1.out, by rw [HP.out, List.append_assoc]; rfl, (hw.alloc hw.size _).trans hb1⟩
      · have i1 : decide ((i : Int) < (xs.length : Int)) = false := by simp; omega
        have i2 : decide ((i : Int) < (ys.length : Int)) = false := by simp; omega
        rw [List.drop_eq_nil_of_le (show xs.length ≤ i by omega)] at hp
        rw [List.drop_eq_nil_of_le (show ys.length ≤ i by omega)] at hp
        rw [plusL] at hp
        by_cases hcr : cr = 0
        · subst hcr
          rw [show (if decide ((0 : Int) < 0) = true then [(0 : Int)] else []) = [] from rfl, List.append_nil] at hp
          have H := Lib.hid hO
          have HP := Lib.hid hp
          clear hO hp
          go_wp2_with fail
          go_light
          go_ret
          exact ⟨_, rfl, by rw [HP.out]; exact H.out, hw⟩
        · have hcr1 : cr = 1 := by omega
          subst hcr1
          rw [show (if decide ((0 : Int) < 1) = true then [(1 : Int)] else []) = [1] from rfl] at hp
          have HP := Lib.hid hp
          have H := Lib.hid hO
          clear hp hO
          go_wp2_with (at_builtin; refine wpList_app rfl _ _ rfl w.heap.size _ _ [1] rfl (H.out.below ((Below.refl _ _).alloc (Nat.le_refl _) (.cells #[.int .i64 1] 3)) (Nat.le_refl _)) (some ⟨wr.heap.size, 0, none⟩) 1 1 rfl (irow1 _ _ _) (fun h => by cases h) ?c1 ?c2 ?_)
          case c1 => simp; omega
          case c2 => have := hw.size; simp; omega
          intro v' w1 hO1 hb1
          have H1 := Lib.hid hO1
          clear hO1
          go_wp2_with fail
          go_roundg (gk - 1)
          case measure => omega
          case rel => exact ⟨i + 1, 0, zs ++ [1], by omega, .inr rfl, by go_num, rfl, by omega, by omega, by simp; omega, H1.out, by rw [HP.out, List.drop_eq_nil_of_le (show xs.length ≤ i + 1 by omega), List.drop_eq_nil_of_le (show ys.length ≤ i + 1 by omega), plusL]; simp, (hw.alloc hw.size _).trans hb1⟩
end Go.Proofs.YtfagfkfcokmclaaGreatDoor
end

/- The document's numbers: digits taken away. -/
section
set_option linter.unusedSimpArgs false
set_option linter.unusedVariables false
namespace Go.Proofs.YtfagfkfcokmclaaGreatDoor
open Go.RowKit

set_option maxRecDepth 100000 in
set_option maxHeartbeats 8000000 in
theorem dminus_any (a b : Option Addr) (c d : Nat) (xs ys : List Int) (w : World) (hI : IRow w a xs.length xs) (hJ : IRow w b ys.length ys) (gx : Dg xs) (gy : Dg ys) (hl : xs.length ≤ 2000000) (hm : ys.length ≤ 2000000) (hle : ys.length ≤ xs.length) : Calls Tryz.prog 118 #[.slice a xs.length c, .slice b ys.length d] w fun e w' =>
    ∃ v, e = .returned v ∧ DRow w' w.heap.size v (trimL (minusL xs ys 0)) ∧ Below w.heap.size w w' := by
  have HI := Lib.hid hI
  have HJ := Lib.hid hJ
  have GX := Lib.hid gx
  have GY := Lib.hid gy
  have hlen := (minusL_spec xs ys 0 gx gy (by omega) (by omega) hle).2.2
  clear hI hJ gx gy
  go_enter Tryz.func118, Tryz.ntmps118
  go_wp2_with fail
  go_loopg [5, 6, 7] (xs.length) (fun m ov cv iv wr => ∃ (i : Nat) (cr : Int) (zs : List Int), m + i = xs.length ∧ iv = .int .i64 (i : Int) ∧ cv = .int .i64 cr ∧ 0 ≤ cr ∧ cr ≤ 1 ∧ zs.length = i ∧ ORow wr w.heap.size ov zs ∧ minusL xs ys 0 = zs ++ minusL (xs.drop i) (ys.drop i) cr ∧ Below w.heap.size w wr)
  case atStart => exact ⟨0, 0, [], by omega, rfl, rfl, by omega, by omega, rfl, ORow.nil _ _, rfl, Below.refl _ _⟩
  case round =>
    obtain ⟨i, cr, zs, hmi, rfl, rfl, hc0, hc1, hz, hO, hp, hw⟩ := hrel
    have hi0 : (0 : Int) ≤ (i : Int) := Int.natCast_nonneg _
    have j3 : IntKind.i64.wrap ((i : Int) + 1) = (i : Int) + 1 := IntWalk.i64_in _ (by omega)
    by_cases hx0 : i < xs.length
    · obtain ⟨x, hx, -⟩ := at_lt xs hx0
      obtain ⟨p, o, rfl, hpb, y0⟩ := irow_at HI.out hx
      have z0 := (hw.cell (p := ⟨p, o + i, none⟩) hpb).trans y0
      have gx := GX.out.at hx
      rw [drop_at hx] at hp
      have i1 : decide ((i : Int) < (xs.length : Int)) = true := by simp; omega
      have s1 : IntKind.i64.wrap (x - cr) = x - cr := IntWalk.i64_in _ (by omega)
      clear y0
      by_cases hy0 : i < ys.length
      · obtain ⟨y, hy, -⟩ := at_lt ys hy0
        obtain ⟨q, t, rfl, hqb, y1⟩ := irow_at HJ.out hy
        have z1 := (hw.cell (p := ⟨q, t + i, none⟩) hqb).trans y1
        have gy := GY.out.at hy
        rw [drop_at hy, minusL] at hp
        have i2 : decide ((i : Int) < (ys.length : Int)) = true := by simp; omega
        have s2 : IntKind.i64.wrap (x - cr - y) = x - cr - y := IntWalk.i64_in _ (by omega)
        clear y1
        obtain ⟨s, hs⟩ : ∃ s, x - cr - y = s := ⟨_, rfl⟩
        rw [hs] at s2 hp
        have s3 : IntKind.i64.wrap (s + 10) = s + 10 := IntWalk.i64_in _ (by omega)
        have H := Lib.hid hO
        clear hO
        cases e1 : decide (s < 0)
        · rw [e1] at hp
          simp only [if_true, if_false, Bool.false_eq_true] at hp
          have HP := Lib.hid hp
          clear hp
          go_wp2_with (at_builtin; refine wpList_app rfl _ _ rfl w.heap.size _ _ [s] rfl (H.out.below ((Below.refl _ _).alloc (Nat.le_refl _) (.cells #[.int .i64 (s)] 3)) (Nat.le_refl _)) (some ⟨wr.heap.size, 0, none⟩) 1 1 rfl (irow1 _ _ _) (fun h => by cases h) ?c1 ?c2 ?_)
          case c1 => simp; omega
          case c2 => have := hw.size; simp; omega
          intro v' w1 hO1 hb1
          have H1 := Lib.hid hO1
          clear hO1
          go_wp2_with fail
          go_roundg (gk - 1)
          case measure => omega
          case rel => exact ⟨i + 1, 0, zs ++ [s], by omega, by go_num, rfl, by omega, by omega, by simp; omega, H1.out, by rw [HP.out, List.append_assoc]; rfl, (hw.alloc hw.size _).trans hb1⟩
        · rw [e1] at hp
          simp only [if_true, if_false, Bool.false_eq_true] at hp
          have HP := Lib.hid hp
          clear hp
          go_wp2_with (at_builtin; refine wpList_app rfl _ _ rfl w.heap.size _ _ [s + 10] rfl (H.out.below ((Below.refl _ _).alloc (Nat.le_refl _) (.cells #[.int .i64 (s + 10)] 3)) (Nat.le_refl _)) (some ⟨wr.heap.size, 0, none⟩) 1 1 rfl (irow1 _ _ _) (fun h => by cases h) ?c1 ?c2 ?_)
          case c1 => simp; omega
          case c2 => have := hw.size; simp; omega
          intro v' w1 hO1 hb1
          have H1 := Lib.hid hO1
          clear hO1
          go_wp2_with fail
          go_roundg (gk - 1)
          case measure => omega
          case rel => exact ⟨i + 1, 1, zs ++ [s + 10], by omega, by go_num, rfl, by omega, by omega, by simp; omega, H1.out, by rw [HP.out, List.append_assoc]; rfl, (hw.alloc hw.size _).trans hb1⟩
      · rw [List.drop_eq_nil_of_le (show ys.length ≤ i by omega), minusL] at hp
        rw [show ([] : List Int) = ys.drop (i + 1) from (List.drop_eq_nil_of_le (by omega)).symm] at hp
        have i2 : decide ((i : Int) < (ys.length : Int)) = false := by simp; omega
        obtain ⟨s, hs⟩ : ∃ s, x - cr = s := ⟨_, rfl⟩
        rw [hs] at s1 hp
        have s3 : IntKind.i64.wrap (s + 10) = s + 10 := IntWalk.i64_in _ (by omega)
        have H := Lib.hid hO
        clear hO
        cases e1 : decide (s < 0)
        · rw [e1] at hp
          simp only [if_true, if_false, Bool.false_eq_true] at hp
          have HP := Lib.hid hp
          clear hp
          go_wp2_with (at_builtin; refine wpList_app rfl _ _ rfl w.heap.size _ _ [s] rfl (H.out.below ((Below.refl _ _).alloc (Nat.le_refl _) (.cells #[.int .i64 (s)] 3)) (Nat.le_refl _)) (some ⟨wr.heap.size, 0, none⟩) 1 1 rfl (irow1 _ _ _) (fun h => by cases h) ?c1 ?c2 ?_)
          case c1 => simp; omega
          case c2 => have := hw.size; simp; omega
          intro v' w1 hO1 hb1
          have H1 := Lib.hid hO1
          clear hO1
          go_wp2_with fail
          go_roundg (gk - 1)
          case measure => omega
          case rel => exact ⟨i + 1, 0, zs ++ [s], by omega, by go_num, rfl, by omega, by omega, by simp; omega, H1.out, by rw [HP.out, List.append_assoc]; rfl, (hw.alloc hw.size _).trans hb1⟩
        · rw [e1] at hp
          simp only [if_true, if_false, Bool.false_eq_true] at hp
          have HP := Lib.hid hp
          clear hp
          go_wp2_with (at_builtin; refine wpList_app rfl _ _ rfl w.heap.size _ _ [s + 10] rfl (H.out.below ((Below.refl _ _).alloc (Nat.le_refl _) (.cells #[.int .i64 (s + 10)] 3)) (Nat.le_refl _)) (some ⟨wr.heap.size, 0, none⟩) 1 1 rfl (irow1 _ _ _) (fun h => by cases h) ?c1 ?c2 ?_)
          case c1 => simp; omega
          case c2 => have := hw.size; simp; omega
          intro v' w1 hO1 hb1
          have H1 := Lib.hid hO1
          clear hO1
          go_wp2_with fail
          go_roundg (gk - 1)
          case measure => omega
          case rel => exact ⟨i + 1, 1, zs ++ [s + 10], by omega, by go_num, rfl, by omega, by omega, by simp; omega, H1.out, by rw [HP.out, List.append_assoc]; rfl, (hw.alloc hw.size _).trans hb1⟩
    · have i1 : decide ((i : Int) < (xs.length : Int)) = false := by simp; omega
      rw [List.drop_eq_nil_of_le (show xs.length ≤ i by omega), minusL, List.append_nil] at hp
      rw [← hp] at hO hz
      have hl2 : (minusL xs ys 0).length ≤ 2000000 := by omega
      obtain ⟨g, k, rfl, hIr, hck, hk0, hgb⟩ := hO.drow (by omega)
      have TR := Lib.hid (fun w' h => trim_any g k (minusL xs ys 0) w' h hck hk0 hl2)
      have HIr := Lib.hid hIr
      have HGB := Lib.hid hgb
      clear hp hO hlen hIr hz hgb
      obtain ⟨mm, hmm⟩ : ∃ mm, minusL xs ys 0 = mm := ⟨_, rfl⟩
      rw [hmm] at TR HIr hl2 HGB hck
      have HM := Lib.hid hmm
      clear hmm
      simp only [HM.out]
      go_wp2_with (go_at_call 58; with_reducible refine (TR.out _ HIr.out).mono ?_; rintro e w1 ⟨rfl, rfl⟩)
      go_light
      go_ret
      exact ⟨_, rfl, by rw [HM.out]; have := trim_row HIr.out; exact ⟨g, k, rfl, this.1, by omega, hk0, fun h => HGB.out (by omega)⟩, hw⟩
end Go.Proofs.YtfagfkfcokmclaaGreatDoor
end

/- The document's numbers: times ten to a power. -/
section
set_option linter.unusedSimpArgs false
set_option linter.unusedVariables false
set_option linter.constructorNameAsVariable false
namespace Go.Proofs.YtfagfkfcokmclaaGreatDoor
open Go.RowKit

/-- 'append(own, row...)', as one operation. -/
theorem wp_app {o : Oper} {act : Act} {K : Act → World → Prop} {Q : Exit → Act → World → Prop} {w : World} (s x : Operand)
    (ho : o.op = .call { callee := .builtin .append, args := #[s, x], argTypes := #[41, 41] }) (base : Nat) (v : Value) (xs ys : List Int) (hs : act.eval s = v) (hown : ORow w base v xs)
    (ax : Option Addr) (m c : Nat) (hx : act.eval x = .slice ax m c) (hI : IRow w ax m ys) (h0 : ax = none → c = 0) (hl : xs.length + m ≤ 10000000) (hb : base ≤ w.heap.size)
    (h : ∀ v' w', ORow w' base v' (xs ++ ys) → Below base w w' → K (act.put o.dst v') w') : o.wp Tryz.prog act w K Q := by
  obtain ⟨i0, hi, hz0, hz1, hz2⟩ := info_parts infoI3
  obtain ⟨rfl, -, hc⟩ := hI
  cases ax with
  | none =>
    have hy : ys = [] := by
      rcases Nat.eq_zero_or_pos ys.length with h | h
      · exact List.length_eq_zero_iff.1 h
      · obtain ⟨b, o, hh, -⟩ := hc h
        cases hh
    subst hy
    obtain rfl := h0 rfl
    have hrun := run_append_owned_none (P := Tryz.prog) (w := w) base 41 o.type 3 i0 1 Tryz.underlying41 hi v xs.length (xs.map (Value.int .i64)) hown
    have hx' : act.eval x = .slice none 0 0 := hx
    unfold Oper.wp
    simp [execOp, ho, resolve, invoke, builtin, hs, hx', hrun, Result.andThen]
    exact h v w (by rw [List.append_nil]; exact hown) (Below.refl _ _)
  | some ad =>
    refine wp_append_own w s x 41 ho base 3 i0 (.int .i64 0) 1 8 Tryz.underlying41 hi hz0 hz1 hz2 rfl (by decide) v xs.length (xs.map (Value.int .i64)) hs hown ad ys.length c (ys.map (Value.int .i64)) hx (by simp) (fun j u hj => ?_) (one_ints ys) (by unfold maxLen; omega) (by omega) hb (fun v' w' h1 h2 _ => h v' w' ?_ (grown_below hown h2 hb))
    · have hj' : j < ys.length := by
        rcases Nat.lt_or_ge j ys.length with h | h
        · exact h
        · rw [List.getElem?_eq_none (by simp; omega)] at hj; cases hj
      obtain ⟨b, q, he, hl, hcell⟩ := hc (by omega)
      cases he
      simp only [List.getElem?_map] at hj
      obtain ⟨y, hy, rfl⟩ := Option.map_eq_some_iff.1 hj
      have := hcell j y hy
      by_cases h0 : j = 0 <;> simp_all [Addr.add]
    · unfold ORow
      simpa using h1
/-- What stays below a mark. -/
def BR (B : Nat) (w w' : World) : Prop := Below B w w'
theorem BR.trans {B : Nat} : ∀ a b c, BR B a b → BR B b c → BR B a c := fun _ _ _ h1 h2 => Below.trans h1 h2
theorem BR.drew {B : Nat} (w : World) : BR B w { w with drawn := w.drawn + 1 } := (Below.refl _ _).drew
/-- The row before the append and behind it, and what is built of it. -/
def JU (B : Nat) (d : Value) (Z L : List Int) (neg : Bool) (x : Nat → Value) (w : World) : Prop :=
  (x 5 = undef ∧ x 6 = undef ∧ ORow w B d Z) ∨ (ORow w B (x 5) L ∧ (x 6 = undef ∨ x 6 = .agg #[.bool neg, x 5]))
theorem orow_val {B : Nat} {v : Value} {xs : List Int} {w : World} (h : ORow w B v xs) : v ≠ undef := by
  rcases h.cases with ⟨rfl, _⟩ | ⟨g, cap, cur, rfl, _⟩ <;> simp [undef]
theorem JU.same {B : Nat} {d : Value} {Z L : List Int} {neg : Bool} {x : Nat → Value} {w : World} (h : JU B d Z L neg x w) {i : Nat} (hi : (i != 5 && i != 6) = true) (v : Value) : JU B d Z L neg (upd x i v) w := by
  simp only [Bool.and_eq_true, bne_iff_ne] at hi
  have h5 : upd x i v 5 = x 5 := by simp [upd]; omega
  have h6 : upd x i v 6 = x 6 := by simp [upd]; omega
  unfold JU
  rw [h5, h6]
  exact h
set_option maxRecDepth 100000 in
set_option maxHeartbeats 8000000 in
theorem up_any (neg : Bool) (a : Option Addr) (c : Nat) (xs : List Int) (k : Nat) (w : World) (hI : IRow w a xs.length xs) (hck : xs.length ≤ c) (h0 : a = none → c = 0) (hl : xs.length ≤ 2000000) (hk : k ≤ 2000000) : Calls Tryz.prog 55 #[.agg #[.bool neg, .slice a xs.length c], .int .i64 (k : Int)] w fun e w' =>
    ∃ v, e = .returned (.agg #[.bool neg, v]) ∧ DRow w' w.heap.size v (upL xs k) ∧ Below w.heap.size w w' := by
  have HI := Lib.hid hI
  clear hI
  cases e0 : ((xs.length : Int) == 0)
  · have hu : upL xs k = List.replicate k 0 ++ xs := by
      have h : (xs.length == 0) = false := by simp at e0 ⊢; exact e0
      unfold upL; rw [h]; rfl
    rw [hu]
    have hul : (List.replicate k (0 : Int) ++ xs).length ≤ 10000000 := by simp; omega
    obtain ⟨L, hL⟩ : ∃ L, L = List.replicate k (0 : Int) ++ xs := ⟨_, rfl⟩
    rw [← hL] at hul ⊢
    have HLL := Lib.hid hL
    clear hu hL
    go_enter Tryz.func55, Tryz.ntmps55
    go_wp2_with fail
    go_loopg [5, 6] k (fun m ov iv wr => ∃ (i : Nat), m + i = k ∧ iv = .int .i64 (i : Int) ∧ ORow wr (w.heap.size + 2) ov (List.replicate i 0) ∧ Blk wr w.heap.size #[.bool neg, .slice a xs.length c] 79 ∧ Blk wr (w.heap.size + 1) #[.bool false, .slice none 0 0] 79 ∧ Below w.heap.size w wr)
    case atStart => exact ⟨0, by omega, rfl, ORow.nil _ _, Blk.alloc (Blk.here rfl rfl) _, Blk.here rfl (by simp), by go_grown⟩
    case round =>
      obtain ⟨i, hmi, rfl, hO, E0, E1, hw⟩ := hrel
      have H := Lib.hid hO
      have k0 : w.heap.size < wr.heap.size := E0.lt
      have k1 : w.heap.size + 1 < wr.heap.size := E1.lt
      obtain ⟨c00, c01, f00, f01⟩ := E0.two
      obtain ⟨c10, c11, f10, f11⟩ := E1.two
      clear hO
      by_cases hi : i < k
      · have i1 : decide ((i : Int) < (k : Int)) = true := by simp; omega
        have j3 : IntKind.i64.wrap ((i : Int) + 1) = (i : Int) + 1 := IntWalk.i64_in _ (by omega)
        go_wp2_with (at_builtin; refine wpList_app rfl _ _ rfl (w.heap.size + 2) _ _ [0] rfl (H.out.below ((Below.refl _ _).alloc (Nat.le_refl _) (.cells #[.int .i64 0] 3)) (Nat.le_refl _)) (some ⟨wr.heap.size, 0, none⟩) 1 1 rfl (irow1 _ _ _) (fun h => by cases h) ?c1 ?c2 ?_)
        case c1 => simp; omega
        case c2 => have := hw.size; simp; omega
        intro v' w1 hO1 hb1
        have H1 := Lib.hid hO1
        have F0 := (E0.alloc (.cells #[.int .i64 0] 3)).below hb1 (by omega)
        have F1 := (E1.alloc (.cells #[.int .i64 0] 3)).below hb1 (by omega)
        clear hO1
        go_wp2_with fail
        go_roundg (gk - 1)
        case measure => omega
        case rel => exact ⟨i + 1, by omega, by go_num, by rw [List.replicate_succ']; exact H1.out, F0, F1, (hw.alloc hw.size _).trans (hb1.mono (by omega))⟩
      · have i1 : decide ((i : Int) < (k : Int)) = false := by simp; omega
        have hik : i = k := by omega
        subst hik
        go_wp2_with fail
        refine RJ.region_steps (R := (BR (w.heap.size + 2))) 7 [some 20, some 21, some 22, some 23, some 24, some 25, some 26] (JU (w.heap.size + 2) u5 (List.replicate i 0) L neg) BR.trans BR.drew (.inl ⟨rfl, rfl, H.out⟩) (by kernel_rfl) (by kernel_rfl) ?_
        -- 0: Op.fieldAddr 79 (Operand.tmp 2) 0
        refine RJ.ls_gen (RJ.MP.val (.pointer (some ⟨w.heap.size, 0, none⟩))) ?_ ?_
        · intro x w' hb hj hpre K hK
          have z00 := (Below.cell (p := ⟨w.heap.size, 0, none⟩) hb (by simp)).trans c00
          have z01 := (Below.cell (p := ⟨w.heap.size, 1, none⟩) hb (by simp)).trans c01
          clear hpre
          simp only [frL, Act.put, List.setIfInBounds_toArray, List.set_cons_zero, List.set_cons_succ, Nat.zero_add, Nat.reduceAdd] at hK ⊢
          have HK := Lib.hid hK
          clear hK
          refine Held.mk ?_
          go_simp
          exact HK.out _ _ rfl (hj.same (by decide) _) (Below.refl _ _)
        -- 1: Op.load 4 (Operand.tmp 20)
        refine RJ.ls_gen (RJ.MP.val (.bool neg)) ?_ ?_
        · intro x w' hb hj hpre K hK
          have z00 := (Below.cell (p := ⟨w.heap.size, 0, none⟩) hb (by simp)).trans c00
          have z01 := (Below.cell (p := ⟨w.heap.size, 1, none⟩) hb (by simp)).trans c01
          simp [preds, Region.binds, RJ.phi, RJ.MP.val] at hpre
          simp only [frL, Act.put, List.setIfInBounds_toArray, List.set_cons_zero, List.set_cons_succ, Nat.zero_add, Nat.reduceAdd, hpre] at hK ⊢
          have HK := Lib.hid hK
          clear hK
          refine Held.mk ?_
          go_simp
          exact HK.out _ _ rfl (hj.same (by decide) _) (Below.refl _ _)
        -- 2: Op.move (Operand.tmp 5)
        refine RJ.ls_gen (RJ.MP.val (u5)) ?_ ?_
        · intro x w' hb hj hpre K hK
          have z00 := (Below.cell (p := ⟨w.heap.size, 0, none⟩) hb (by simp)).trans c00
          have z01 := (Below.cell (p := ⟨w.heap.size, 1, none⟩) hb (by simp)).trans c01
          clear hpre
          simp only [frL, Act.put, List.setIfInBounds_toArray, List.set_cons_zero, List.set_cons_succ, Nat.zero_add, Nat.reduceAdd] at hK ⊢
          have HK := Lib.hid hK
          clear hK
          refine Held.mk ?_
          go_simp
          exact HK.out _ _ rfl (hj.same (by decide) _) (Below.refl _ _)
        -- 3: Op.fieldAddr 79 (Operand.tmp 2) 1
        refine RJ.ls_gen (RJ.MP.val (.pointer (some ⟨w.heap.size, 1, none⟩))) ?_ ?_
        · intro x w' hb hj hpre K hK
          have z00 := (Below.cell (p := ⟨w.heap.size, 0, none⟩) hb (by simp)).trans c00
          have z01 := (Below.cell (p := ⟨w.heap.size, 1, none⟩) hb (by simp)).trans c01
          clear hpre
          simp only [frL, Act.put, List.setIfInBounds_toArray, List.set_cons_zero, List.set_cons_succ, Nat.zero_add, Nat.reduceAdd] at hK ⊢
          have HK := Lib.hid hK
          clear hK
          refine Held.mk ?_
          go_simp
          exact HK.out _ _ rfl (hj.same (by decide) _) (Below.refl _ _)
        -- 4: Op.load 41 (Operand.tmp 23)
        refine RJ.ls_gen (RJ.MP.val (.slice a xs.length c)) ?_ ?_
        · intro x w' hb hj hpre K hK
          have z00 := (Below.cell (p := ⟨w.heap.size, 0, none⟩) hb (by simp)).trans c00
          have z01 := (Below.cell (p := ⟨w.heap.size, 1, none⟩) hb (by simp)).trans c01
          simp [preds, Region.binds, RJ.phi, RJ.MP.val] at hpre
          simp only [frL, Act.put, List.setIfInBounds_toArray, List.set_cons_zero, List.set_cons_succ, Nat.zero_add, Nat.reduceAdd, hpre] at hK ⊢
          have HK := Lib.hid hK
          clear hK
          refine Held.mk ?_
          go_simp
          exact HK.out _ _ rfl (hj.same (by decide) _) (Below.refl _ _)
        -- 5: Op.call { callee := Callee.builtin Builtin.append, args := #[Operand.tmp 22, Ope
        refine RJ.ls_genO ⟨fun v _ => v ≠ undef, fun _ _ _ h _ => h⟩ ?_ ?_
        · intro x w' hb hj hpre ho K hK
          have h5 := ho 5 (by omega) (.inl rfl)
          have h6 := ho 6 (by omega) (.inr (by kernel_rfl))
          simp [orig] at h5 h6
          have hO' : ORow w' (w.heap.size + 2) u5 (List.replicate i 0) := by
            rcases hj with ⟨-, -, h⟩ | ⟨h, -⟩
            · exact h
            · rw [h5] at h
              exact absurd rfl (orow_val h)
          simp [preds, Region.binds, RJ.phi, RJ.MP.val, RJ.MP.any] at hpre
          simp only [frL, Act.put, List.setIfInBounds_toArray, List.set_cons_zero, List.set_cons_succ, Nat.zero_add, Nat.reduceAdd, hpre] at hK ⊢
          have HK := Lib.hid hK
          clear hK
          refine Held.mk ?_
          rw [if_pos (by rfl)]
          refine wp_app _ _ rfl (w.heap.size + 2) _ _ xs rfl hO' a xs.length c rfl (HI.out.below (hw.trans (Below.mono hb (by omega))) (Nat.le_refl _)) h0 (by simp; omega) (by have := Below.size hb; omega) (fun v' w'' hO'' hb' => ?_)
          rw [← HLL.out] at hO''
          refine HK.out v' w'' (orow_val hO'') (.inr ⟨?_, .inl ?_⟩) hb'
          · simpa [upd] using hO''
          · simpa [upd] using h6
        -- 6: Op.build 79 #[(0, Operand.tmp 21), (1, Operand.tmp 25)]
        refine RJ.ls_genO ⟨fun v _ => v ≠ undef, fun _ _ _ h _ => h⟩ ?_ ?_
        · intro x w' hb hj hpre ho K hK
          simp [preds, Region.binds, RJ.phi, RJ.MP.val, RJ.MP.any] at hpre
          have hJ' : ORow w' (w.heap.size + 2) (x 5) L := by
            rcases hj with ⟨h, -, -⟩ | ⟨h, -⟩
            · exact absurd h hpre.2
            · exact h
          obtain ⟨g, cc, hx5, -⟩ := hJ'.drow (by omega)
          clear ho
          simp only [frL, Act.put, List.setIfInBounds_toArray, List.set_cons_zero, List.set_cons_succ, Nat.zero_add, Nat.reduceAdd, hpre, hx5] at hK ⊢
          have HK := Lib.hid hK
          clear hK
          refine Held.mk ?_
          go_simp
          refine HK.out (.agg #[.bool neg, .slice g L.length cc]) w' (by simp [undef]) (.inr ⟨?_, .inr ?_⟩) (Below.refl _ _)
          · simpa [upd] using hJ'
          · simp [upd, hx5]
        intro x w' hb hp hJ
        simp only [List.cons_append, List.nil_append, RJ.phis, RJ.MP.val, frL, Act.put, List.setIfInBounds_toArray, List.set_cons_zero, List.set_cons_succ, Nat.zero_add, Nat.reduceAdd] at hp ⊢
        obtain ⟨h0, h1, h2, h3, h4, h5, h6, -⟩ := hp
        have hx6 : x 6 ≠ undef := h6
        obtain ⟨hO', hx6⟩ : ORow w' (w.heap.size + 2) (x 5) L ∧ x 6 = .agg #[.bool neg, x 5] := by
          rcases hJ with ⟨-, h, -⟩ | ⟨h, h'⟩
          · exact absurd h hx6
          · exact ⟨h, h'.resolve_left hx6⟩
        have hD := hO'.drow (by omega)
        obtain ⟨g, cc, hx5, -⟩ := hD
        have hx5' := hx5
        rw [hx5] at hx6 hO'
        simp only [hx6]
        clear hx6 hx5 hx5' hJ
        have F0 : Blk w' w.heap.size #[.bool neg, .slice a xs.length c] 79 := E0.below hb (by omega)
        have F1 : Blk w' (w.heap.size + 1) #[.bool false, .slice none 0 0] 79 := E1.below hb (by omega)
        have hw1 : Below w.heap.size w w' := hw.trans (Below.mono hb (by omega))
        have H2 := Lib.hid hO'
        clear c00 c01 f00 f01 c10 c11 f10 f11 E0 E1 hO' hb
        obtain ⟨c00, c01, f00, f01⟩ := F0.two
        obtain ⟨c10, c11, f10, f11⟩ := F1.two
        go_wp2_with fail
        refine bodyPost_ret (v := .agg #[.bool neg, .slice g L.length cc]) (by simp [results, Tryz.results55, go_sem, c10, c11, f10, f11]) rfl ⟨_, rfl, ?_, ?_⟩
        · exact (((H2.out.other (by simp) _).other (by simp) _).drow (by omega)).mono (by omega)
        · go_grown
          all_goals first | exact hw1 | exact hw1.size | omega
  · have hx : xs = [] := by simp at e0; exact e0
    subst hx
    go_enter Tryz.func55, Tryz.ntmps55
    go_wp2_with fail
    refine bodyPost_ret (v := .agg #[.bool neg, .slice a 0 c]) (by simp [results, Tryz.results55, go_sem]) rfl ⟨_, rfl, ⟨a, c, rfl, IRow.nil _ _, Nat.zero_le _, h0, fun h => by cases h⟩, ?_⟩
    go_grown
end Go.Proofs.YtfagfkfcokmclaaGreatDoor
end

/- The document's numbers: sums of whole numbers. -/
section
set_option linter.unusedSimpArgs false
set_option linter.unusedVariables false
set_option linter.constructorNameAsVariable false
namespace Go.Proofs.YtfagfkfcokmclaaGreatDoor
open Go.RowKit

theorem wp_worldN {P : Program} {c : Code} {Q : Exit → Act → World → Prop} {a : Act} {w : World} (h : ∀ W, W = w → c.wp P Q a W) : c.wp P Q a w := h w rfl
/-- Signs and digits, added. -/
def addD (n1 : Bool) (xs : List Int) (n2 : Bool) (ys : List Int) : Bool × List Int :=
  if n1 == n2 then (n1, plusL xs ys 0) else if decide (0 ≤ cmpL xs ys) then (n1, trimL (minusL xs ys 0)) else (n2, trimL (minusL ys xs 0))
theorem cmpL_len {xs ys : List Int} (h : 0 ≤ cmpL xs ys) : ys.length ≤ xs.length := by
  unfold cmpL at h
  split at h
  · rename_i h1; simp at h1; omega
  · split at h
    · omega
    · rename_i h2; simp at h2; omega
theorem cmpL_len' {xs ys : List Int} (h : ¬ 0 ≤ cmpL xs ys) : xs.length ≤ ys.length := by
  unfold cmpL at h
  split at h
  · rename_i h1; simp at h1; omega
  · split at h
    · rename_i h2; simp at h2; omega
    · omega
/-- A row, told by its digits. -/
def MP.drow (base : Nat) (L : List Int) : MP := ⟨fun v w => DRow w base v L, fun _ _ _ h hb => h.below hb (Nat.le_refl _)⟩
/-- A number of the document's, told by its sign and digits. -/
def MP.big (base : Nat) (neg : Bool) (L : List Int) : MP := ⟨fun v w => ∃ u, v = .agg #[.bool neg, u] ∧ DRow w base u L, fun _ _ _ ⟨u, e, h⟩ hb => ⟨u, e, h.below hb (Nat.le_refl _)⟩⟩
set_option maxRecDepth 100000 in
set_option maxHeartbeats 8000000 in
theorem radd_any (n1 n2 : Bool) (a b : Option Addr) (c d : Nat) (xs ys : List Int) (w : World) (hI : IRow w a xs.length xs) (hJ : IRow w b ys.length ys) (gx : Dg xs) (gy : Dg ys) (hl : xs.length ≤ 2000000) (hm : ys.length ≤ 2000000) : Calls Tryz.prog 57 #[.agg #[.bool n1, .slice a xs.length c], .agg #[.bool n2, .slice b ys.length d]] w fun e w' =>
    ∃ v, e = .returned (.agg #[.bool (addD n1 xs n2 ys).1, v]) ∧ DRow w' w.heap.size v (addD n1 xs n2 ys).2 ∧ Below w.heap.size w w' := by
  have HI := Lib.hid hI
  have HJ := Lib.hid hJ
  have PL := Lib.hid (fun w' h1 h2 => dplus_any a b c d xs ys w' h1 h2 gx gy hl hm)
  have CM := Lib.hid (fun w' h1 h2 => dcmp_any a b c d xs ys w' h1 h2 hl hm)
  have hpl := plusL_len xs ys 0
  unfold addD
  cases e1 : (n1 == n2)
  rotate_left
  · simp only [if_true]
    have hLl : (plusL xs ys 0).length ≤ 1152921504606846976 := by omega
    obtain ⟨L, hL⟩ : ∃ L, L = plusL xs ys 0 := ⟨_, rfl⟩
    rw [← hL] at PL hLl ⊢
    clear hI hJ gx gy hpl hL CM
    go_enter Tryz.func57, Tryz.ntmps57
    go_upto_region 2 with fail
    refine wp_worldN ?_
    intro w3 hw3
    have E0 : Blk w3 w.heap.size #[.bool n1, .slice a xs.length c] 79 := by rw [hw3]; exact Blk.alloc (Blk.alloc (Blk.here rfl rfl) _) _
    have E1 : Blk w3 (w.heap.size + 1) #[.bool n2, .slice b ys.length d] 79 := by rw [hw3]; exact Blk.alloc (Blk.here rfl (by simp)) _
    have E2 : Blk w3 (w.heap.size + 1 + 1) #[.bool false, .slice none 0 0] 79 := by rw [hw3]; exact Blk.here rfl (by simp)
    have hw : Below w.heap.size w w3 := by rw [hw3]; go_grown
    clear hw3
    have k0 : w.heap.size < w3.heap.size := E0.lt
    have k1 : w.heap.size + 1 < w3.heap.size := E1.lt
    have k2 : w.heap.size + 1 + 1 < w3.heap.size := E2.lt
    obtain ⟨c00, c01, f00, f01⟩ := E0.two
    obtain ⟨c10, c11, f10, f11⟩ := E1.two
    refine region_steps 8 [some 10, some 11, some 12, some 13, some 14, some 15, some 16, some 17] (by kernel_rfl) (by kernel_rfl) ?_
    -- 0: Op.fieldAddr 79 (Operand.tmp 2) 0
    apply ls_val
    · intro x w' hb hpre K hK
      have hc := (bcell hb).1
      clear hpre
      simp only [frL, Act.put, List.setIfInBounds_toArray, List.set_cons_zero, List.set_cons_succ, Nat.zero_add, Nat.reduceAdd] at hK ⊢
      have HK := Lib.hid hK
      clear hK
      refine Held.mk ?_
      go_simp
      exact HK.out _ (Below.refl _ _)
    -- 1: Op.load 4 (Operand.tmp 10)
    apply ls_val
    · intro x w' hb hpre K hK
      have hc := (bcell hb).1
      simp [preds, Region.binds, phi, MP.val, MP.box, MP.row] at hpre
      simp only [frL, Act.put, List.setIfInBounds_toArray, List.set_cons_zero, List.set_cons_succ, Nat.zero_add, Nat.reduceAdd, hpre] at hK ⊢
      have HK := Lib.hid hK
      clear hK
      refine Held.mk ?_
      go_simp
      exact HK.out _ (Below.refl _ _)
    -- 2: Op.fieldAddr 79 (Operand.tmp 2) 1
    apply ls_val
    · intro x w' hb hpre K hK
      have hc := (bcell hb).1
      clear hpre
      simp only [frL, Act.put, List.setIfInBounds_toArray, List.set_cons_zero, List.set_cons_succ, Nat.zero_add, Nat.reduceAdd] at hK ⊢
      have HK := Lib.hid hK
      clear hK
      refine Held.mk ?_
      go_simp
      exact HK.out _ (Below.refl _ _)
    -- 3: Op.load 41 (Operand.tmp 12)
    apply ls_val
    · intro x w' hb hpre K hK
      have hc := (bcell hb).1
      simp [preds, Region.binds, phi, MP.val, MP.box, MP.row] at hpre
      simp only [frL, Act.put, List.setIfInBounds_toArray, List.set_cons_zero, List.set_cons_succ, Nat.zero_add, Nat.reduceAdd, hpre] at hK ⊢
      have HK := Lib.hid hK
      clear hK
      refine Held.mk ?_
      go_simp
      exact HK.out _ (Below.refl _ _)
    -- 4: Op.fieldAddr 79 (Operand.tmp 3) 1
    apply ls_val
    · intro x w' hb hpre K hK
      have hc := (bcell hb).1
      clear hpre
      simp only [frL, Act.put, List.setIfInBounds_toArray, List.set_cons_zero, List.set_cons_succ, Nat.zero_add, Nat.reduceAdd] at hK ⊢
      have HK := Lib.hid hK
      clear hK
      refine Held.mk ?_
      go_simp
      exact HK.out _ (Below.refl _ _)
    -- 5: Op.load 41 (Operand.tmp 14)
    apply ls_val
    · intro x w' hb hpre K hK
      have hc := (bcell hb).1
      simp [preds, Region.binds, phi, MP.val, MP.box, MP.row] at hpre
      simp only [frL, Act.put, List.setIfInBounds_toArray, List.set_cons_zero, List.set_cons_succ, Nat.zero_add, Nat.reduceAdd, hpre] at hK ⊢
      have HK := Lib.hid hK
      clear hK
      refine Held.mk ?_
      go_simp
      exact HK.out _ (Below.refl _ _)
    -- 6: Op.call { callee := Callee.value (Operand.func 116), args := #[Operand.tmp 13, Operand.tmp
    refine ls_gen (MP.drow w3.heap.size L) ?_ ?_
    · intro x w' hb hpre K hK
      simp [preds, Region.binds, phi, MP.val] at hpre
      simp only [frL, Act.put, List.setIfInBounds_toArray, List.set_cons_zero, List.set_cons_succ, Nat.zero_add, Nat.reduceAdd, hpre] at hK ⊢
      have HK := Lib.hid hK
      clear hK
      refine Held.mk ?_
      go_simp
      refine (PL.out w' (HI.out.below (hw.trans (hb.mono hw.size)) (Nat.le_refl _)) (HJ.out.below (hw.trans (hb.mono hw.size)) (Nat.le_refl _))).mono ?_
      rintro e w1 ⟨v, rfl, hO, hb1⟩
      dsimp only
      exact HK.out v w1 ((hO.drow hLl).mono hb.size) hb1
    -- 7: Op.build 79 #[(0, Operand.tmp 11), (1, Operand.tmp 16)]
    refine ls_gen (MP.big w3.heap.size n1 L) ?_ ?_
    · intro x w' hb hpre K hK
      simp [preds, Region.binds, phi, MP.val, MP.drow] at hpre
      obtain ⟨hp1, g, cc, hp2, hp3⟩ := hpre
      simp only [frL, Act.put, List.setIfInBounds_toArray, List.set_cons_zero, List.set_cons_succ, Nat.zero_add, Nat.reduceAdd, hp1, hp2] at hK ⊢
      have HK := Lib.hid hK
      clear hK
      refine Held.mk ?_
      go_simp
      exact HK.out (.agg #[.bool n1, .slice g L.length cc]) w' ⟨_, rfl, g, cc, rfl, hp3⟩ (Below.refl _ _)
    intro x w' hb hp
    simp only [List.cons_append, List.nil_append, phis, MP.val, MP.box, MP.row, frL, Act.put, List.setIfInBounds_toArray, List.set_cons_zero, List.set_cons_succ, Nat.zero_add, Nat.reduceAdd] at hp ⊢
    obtain ⟨h0, h1, h2, h3, h4, h5, h6, h7, -⟩ := hp
    simp only [h0, h1, h2, h3, h4, h5]
    clear h0 h1 h2 h3 h4 h5
    obtain ⟨u, hx7, hD⟩ : ∃ u, x 7 = .agg #[.bool n1, u] ∧ DRow w' w3.heap.size u L := h7
    have hD' := hD
    obtain ⟨g, cc, hu, -⟩ := hD'
    subst hu
    simp only [hx7]
    clear hx7
    have F3 : Blk w' (w.heap.size + 1 + 1) #[.bool false, .slice none 0 0] 79 := E2.below hb k2
    have hw1 : Below w.heap.size w w' := hw.trans (hb.mono hw.size)
    have l2 : w.heap.size + 1 + 1 < w'.heap.size := F3.lt
    clear c00 c01 f00 f01 c10 c11 f10 f11 E0 E1 E2 hb hw
    obtain ⟨c20, c21, f20, f21⟩ := F3.two
    go_wp2_with fail
    refine bodyPost_ret (v := .agg #[.bool n1, .slice g L.length cc]) (by simp [results, Tryz.results57, go_sem, c20, c21, f20, f21]) rfl ⟨_, rfl, ?_, ?_⟩
    · exact (((hD.other (by simpa using k2) _).other (by simpa using k2) _).mono (by omega))
    · go_grown
      all_goals first | exact hw1 | exact hw1.size | omega
  · simp only [Bool.false_eq_true, if_false]
    cases e2 : decide (0 ≤ cmpL xs ys)
    · have hlen := cmpL_len' (by simpa using e2)
      have MI := Lib.hid (fun w' h1 h2 => dminus_any b a d c ys xs w' h1 h2 gy gx hm hl hlen)
      obtain ⟨L, hL⟩ : ∃ L, L = trimL (minusL ys xs 0) := ⟨_, rfl⟩
      simp only [if_true, Bool.false_eq_true, if_false]
      rw [← hL] at MI ⊢
      obtain ⟨cv, hcv⟩ : ∃ cv, cmpL xs ys = cv := ⟨_, rfl⟩
      rw [hcv] at CM e2
      clear hI hJ gx gy hpl hL PL hcv
      go_enter Tryz.func57, Tryz.ntmps57
      go_upto_region 3 with fail
      refine wp_worldN ?_
      intro w3 hw3
      have E0 : Blk w3 w.heap.size #[.bool n1, .slice a xs.length c] 79 := by rw [hw3]; exact Blk.alloc (Blk.alloc (Blk.here rfl rfl) _) _
      have E1 : Blk w3 (w.heap.size + 1) #[.bool n2, .slice b ys.length d] 79 := by rw [hw3]; exact Blk.alloc (Blk.here rfl (by simp)) _
      have E2 : Blk w3 (w.heap.size + 1 + 1) #[.bool false, .slice none 0 0] 79 := by rw [hw3]; exact Blk.here rfl (by simp)
      have hw : Below w.heap.size w w3 := by rw [hw3]; go_grown
      clear hw3
      have k0 : w.heap.size < w3.heap.size := E0.lt
      have k1 : w.heap.size + 1 < w3.heap.size := E1.lt
      have k2 : w.heap.size + 1 + 1 < w3.heap.size := E2.lt
      obtain ⟨c00, c01, f00, f01⟩ := E0.two
      obtain ⟨c10, c11, f10, f11⟩ := E1.two
      go_wp2_with (go_at_call 117; refine (CM.out _ (HI.out.below hw (Nat.le_refl _)) (HJ.out.below hw (Nat.le_refl _))).mono ?_; rintro e w4 ⟨rfl, hb4⟩
                   have F0 := E0.below hb4 k0
                   have F1 := E1.below hb4 k1
                   have F2 := E2.below hb4 k2
                   have hw4 : Below w.heap.size w w4 := hw.trans (hb4.mono hw.size)
                   clear c00 c01 f00 f01 c10 c11 f10 f11 E0 E1 E2 hb4 k0 k1 k2
                   have k0 : w.heap.size < w4.heap.size := F0.lt
                   have k1 : w.heap.size + 1 < w4.heap.size := F1.lt
                   have k2 : w.heap.size + 1 + 1 < w4.heap.size := F2.lt
                   obtain ⟨c00, c01, f00, f01⟩ := F0.two
                   obtain ⟨c10, c11, f10, f11⟩ := F1.two)
      clear hw
      have hw := hw4
      have E2 := F2
      refine region_steps 8 [some 32, some 33, some 34, some 35, some 36, some 37, some 38, some 39] (by kernel_rfl) (by kernel_rfl) ?_
      -- 0: Op.fieldAddr 79 (Operand.tmp 3) 0
      apply ls_val
      · intro x w' hb hpre K hK
        have hc := (bcell hb).1
        clear hpre
        simp only [frL, Act.put, List.setIfInBounds_toArray, List.set_cons_zero, List.set_cons_succ, Nat.zero_add, Nat.reduceAdd] at hK ⊢
        have HK := Lib.hid hK
        clear hK
        refine Held.mk ?_
        go_simp
        exact HK.out _ (Below.refl _ _)
      -- 1: Op.load 4 (Operand.tmp 32)
      apply ls_val
      · intro x w' hb hpre K hK
        have hc := (bcell hb).1
        simp [preds, Region.binds, phi, MP.val, MP.box, MP.row] at hpre
        simp only [frL, Act.put, List.setIfInBounds_toArray, List.set_cons_zero, List.set_cons_succ, Nat.zero_add, Nat.reduceAdd, hpre] at hK ⊢
        have HK := Lib.hid hK
        clear hK
        refine Held.mk ?_
        go_simp
        exact HK.out _ (Below.refl _ _)
      -- 2: Op.fieldAddr 79 (Operand.tmp 3) 1
      apply ls_val
      · intro x w' hb hpre K hK
        have hc := (bcell hb).1
        clear hpre
        simp only [frL, Act.put, List.setIfInBounds_toArray, List.set_cons_zero, List.set_cons_succ, Nat.zero_add, Nat.reduceAdd] at hK ⊢
        have HK := Lib.hid hK
        clear hK
        refine Held.mk ?_
        go_simp
        exact HK.out _ (Below.refl _ _)
      -- 3: Op.load 41 (Operand.tmp 34)
      apply ls_val
      · intro x w' hb hpre K hK
        have hc := (bcell hb).1
        simp [preds, Region.binds, phi, MP.val, MP.box, MP.row] at hpre
        simp only [frL, Act.put, List.setIfInBounds_toArray, List.set_cons_zero, List.set_cons_succ, Nat.zero_add, Nat.reduceAdd, hpre] at hK ⊢
        have HK := Lib.hid hK
        clear hK
        refine Held.mk ?_
        go_simp
        exact HK.out _ (Below.refl _ _)
      -- 4: Op.fieldAddr 79 (Operand.tmp 2) 1
      apply ls_val
      · intro x w' hb hpre K hK
        have hc := (bcell hb).1
        clear hpre
        simp only [frL, Act.put, List.setIfInBounds_toArray, List.set_cons_zero, List.set_cons_succ, Nat.zero_add, Nat.reduceAdd] at hK ⊢
        have HK := Lib.hid hK
        clear hK
        refine Held.mk ?_
        go_simp
        exact HK.out _ (Below.refl _ _)
      -- 5: Op.load 41 (Operand.tmp 36)
      apply ls_val
      · intro x w' hb hpre K hK
        have hc := (bcell hb).1
        simp [preds, Region.binds, phi, MP.val, MP.box, MP.row] at hpre
        simp only [frL, Act.put, List.setIfInBounds_toArray, List.set_cons_zero, List.set_cons_succ, Nat.zero_add, Nat.reduceAdd, hpre] at hK ⊢
        have HK := Lib.hid hK
        clear hK
        refine Held.mk ?_
        go_simp
        exact HK.out _ (Below.refl _ _)
      -- 6: Op.call { callee := Callee.value (Operand.func 118), args := #[Operand.tmp 35, Operand.tmp
      refine ls_gen (MP.drow w4.heap.size L) ?_ ?_
      · intro x w' hb hpre K hK
        simp [preds, Region.binds, phi, MP.val] at hpre
        simp only [frL, Act.put, List.setIfInBounds_toArray, List.set_cons_zero, List.set_cons_succ, Nat.zero_add, Nat.reduceAdd, hpre] at hK ⊢
        have HK := Lib.hid hK
        clear hK
        refine Held.mk ?_
        go_simp
        refine (MI.out w' (HJ.out.below (hw.trans (hb.mono hw.size)) (Nat.le_refl _)) (HI.out.below (hw.trans (hb.mono hw.size)) (Nat.le_refl _))).mono ?_
        rintro e w1 ⟨v, rfl, hO, hb1⟩
        dsimp only
        exact HK.out v w1 (hO.mono hb.size) hb1
      -- 7: Op.build 79 #[(0, Operand.tmp 33), (1, Operand.tmp 38)]
      refine ls_gen (MP.big w4.heap.size n2 L) ?_ ?_
      · intro x w' hb hpre K hK
        simp [preds, Region.binds, phi, MP.val, MP.drow] at hpre
        obtain ⟨hp1, g, cc, hp2, hp3⟩ := hpre
        simp only [frL, Act.put, List.setIfInBounds_toArray, List.set_cons_zero, List.set_cons_succ, Nat.zero_add, Nat.reduceAdd, hp1, hp2] at hK ⊢
        have HK := Lib.hid hK
        clear hK
        refine Held.mk ?_
        go_simp
        exact HK.out (.agg #[.bool n2, .slice g L.length cc]) w' ⟨_, rfl, g, cc, rfl, hp3⟩ (Below.refl _ _)
      intro x w' hb hp
      simp only [List.cons_append, List.nil_append, phis, MP.val, MP.box, MP.row, frL, Act.put, List.setIfInBounds_toArray, List.set_cons_zero, List.set_cons_succ, Nat.zero_add, Nat.reduceAdd] at hp ⊢
      obtain ⟨h0, h1, h2, h3, h4, h5, h6, h7, -⟩ := hp
      simp only [h0, h1, h2, h3, h4, h5]
      clear h0 h1 h2 h3 h4 h5
      obtain ⟨u, hx7, hD⟩ : ∃ u, x 7 = .agg #[.bool n2, u] ∧ DRow w' w4.heap.size u L := h7
      have hD' := hD
      obtain ⟨g, cc, hu, -⟩ := hD'
      subst hu
      simp only [hx7]
      clear hx7
      have F3 : Blk w' (w.heap.size + 1 + 1) #[.bool false, .slice none 0 0] 79 := E2.below hb k2
      have hw1 : Below w.heap.size w w' := hw.trans (hb.mono hw.size)
      have l2 : w.heap.size + 1 + 1 < w'.heap.size := F3.lt
      clear c00 c01 f00 f01 c10 c11 f10 f11 F0 F1 F2 E2 hb hw hw4
      obtain ⟨c20, c21, f20, f21⟩ := F3.two
      go_wp2_with fail
      refine bodyPost_ret (v := .agg #[.bool n2, .slice g L.length cc]) (by simp [results, Tryz.results57, go_sem, c20, c21, f20, f21]) rfl ⟨_, rfl, ?_, ?_⟩
      · exact (((hD.other (by simpa using k2) _).other (by simpa using k2) _).mono (by omega))
      · go_grown
        all_goals first | exact hw1 | exact hw1.size | omega
    · have hlen := cmpL_len (by simpa using e2)
      have MI := Lib.hid (fun w' h1 h2 => dminus_any a b c d xs ys w' h1 h2 gx gy hl hm hlen)
      obtain ⟨L, hL⟩ : ∃ L, L = trimL (minusL xs ys 0) := ⟨_, rfl⟩
      simp only [if_true, Bool.false_eq_true, if_false]
      rw [← hL] at MI ⊢
      obtain ⟨cv, hcv⟩ : ∃ cv, cmpL xs ys = cv := ⟨_, rfl⟩
      rw [hcv] at CM e2
      clear hI hJ gx gy hpl hL PL hcv
      go_enter Tryz.func57, Tryz.ntmps57
      go_upto_region 3 with fail
      refine wp_worldN ?_
      intro w3 hw3
      have E0 : Blk w3 w.heap.size #[.bool n1, .slice a xs.length c] 79 := by rw [hw3]; exact Blk.alloc (Blk.alloc (Blk.here rfl rfl) _) _
      have E1 : Blk w3 (w.heap.size + 1) #[.bool n2, .slice b ys.length d] 79 := by rw [hw3]; exact Blk.alloc (Blk.here rfl (by simp)) _
      have E2 : Blk w3 (w.heap.size + 1 + 1) #[.bool false, .slice none 0 0] 79 := by rw [hw3]; exact Blk.here rfl (by simp)
      have hw : Below w.heap.size w w3 := by rw [hw3]; go_grown
      clear hw3
      have k0 : w.heap.size < w3.heap.size := E0.lt
      have k1 : w.heap.size + 1 < w3.heap.size := E1.lt
      have k2 : w.heap.size + 1 + 1 < w3.heap.size := E2.lt
      obtain ⟨c00, c01, f00, f01⟩ := E0.two
      obtain ⟨c10, c11, f10, f11⟩ := E1.two
      go_wp2_with (go_at_call 117; refine (CM.out _ (HI.out.below hw (Nat.le_refl _)) (HJ.out.below hw (Nat.le_refl _))).mono ?_; rintro e w4 ⟨rfl, hb4⟩
                   have F0 := E0.below hb4 k0
                   have F1 := E1.below hb4 k1
                   have F2 := E2.below hb4 k2
                   have hw4 : Below w.heap.size w w4 := hw.trans (hb4.mono hw.size)
                   clear c00 c01 f00 f01 c10 c11 f10 f11 E0 E1 E2 hb4 k0 k1 k2
                   have k0 : w.heap.size < w4.heap.size := F0.lt
                   have k1 : w.heap.size + 1 < w4.heap.size := F1.lt
                   have k2 : w.heap.size + 1 + 1 < w4.heap.size := F2.lt
                   obtain ⟨c00, c01, f00, f01⟩ := F0.two
                   obtain ⟨c10, c11, f10, f11⟩ := F1.two)
      clear hw
      have hw := hw4
      have E2 := F2
      refine region_steps 8 [some 24, some 25, some 26, some 27, some 28, some 29, some 30, some 31] (by kernel_rfl) (by kernel_rfl) ?_
      -- 0: Op.fieldAddr 79 (Operand.tmp 2) 0
      apply ls_val
      · intro x w' hb hpre K hK
        have hc := (bcell hb).1
        clear hpre
        simp only [frL, Act.put, List.setIfInBounds_toArray, List.set_cons_zero, List.set_cons_succ, Nat.zero_add, Nat.reduceAdd] at hK ⊢
        have HK := Lib.hid hK
        clear hK
        refine Held.mk ?_
        go_simp
        exact HK.out _ (Below.refl _ _)
      -- 1: Op.load 4 (Operand.tmp 24)
      apply ls_val
      · intro x w' hb hpre K hK
        have hc := (bcell hb).1
        simp [preds, Region.binds, phi, MP.val, MP.box, MP.row] at hpre
        simp only [frL, Act.put, List.setIfInBounds_toArray, List.set_cons_zero, List.set_cons_succ, Nat.zero_add, Nat.reduceAdd, hpre] at hK ⊢
        have HK := Lib.hid hK
        clear hK
        refine Held.mk ?_
        go_simp
        exact HK.out _ (Below.refl _ _)
      -- 2: Op.fieldAddr 79 (Operand.tmp 2) 1
      apply ls_val
      · intro x w' hb hpre K hK
        have hc := (bcell hb).1
        clear hpre
        simp only [frL, Act.put, List.setIfInBounds_toArray, List.set_cons_zero, List.set_cons_succ, Nat.zero_add, Nat.reduceAdd] at hK ⊢
        have HK := Lib.hid hK
        clear hK
        refine Held.mk ?_
        go_simp
        exact HK.out _ (Below.refl _ _)
      -- 3: Op.load 41 (Operand.tmp 26)
      apply ls_val
      · intro x w' hb hpre K hK
        have hc := (bcell hb).1
        simp [preds, Region.binds, phi, MP.val, MP.box, MP.row] at hpre
        simp only [frL, Act.put, List.setIfInBounds_toArray, List.set_cons_zero, List.set_cons_succ, Nat.zero_add, Nat.reduceAdd, hpre] at hK ⊢
        have HK := Lib.hid hK
        clear hK
        refine Held.mk ?_
        go_simp
        exact HK.out _ (Below.refl _ _)
      -- 4: Op.fieldAddr 79 (Operand.tmp 3) 1
      apply ls_val
      · intro x w' hb hpre K hK
        have hc := (bcell hb).1
        clear hpre
        simp only [frL, Act.put, List.setIfInBounds_toArray, List.set_cons_zero, List.set_cons_succ, Nat.zero_add, Nat.reduceAdd] at hK ⊢
        have HK := Lib.hid hK
        clear hK
        refine Held.mk ?_
        go_simp
        exact HK.out _ (Below.refl _ _)
      -- 5: Op.load 41 (Operand.tmp 28)
      apply ls_val
      · intro x w' hb hpre K hK
        have hc := (bcell hb).1
        simp [preds, Region.binds, phi, MP.val, MP.box, MP.row] at hpre
        simp only [frL, Act.put, List.setIfInBounds_toArray, List.set_cons_zero, List.set_cons_succ, Nat.zero_add, Nat.reduceAdd, hpre] at hK ⊢
        have HK := Lib.hid hK
        clear hK
        refine Held.mk ?_
        go_simp
        exact HK.out _ (Below.refl _ _)
      -- 6: Op.call { callee := Callee.value (Operand.func 118), args := #[Operand.tmp 27, Operand.tmp
      refine ls_gen (MP.drow w4.heap.size L) ?_ ?_
      · intro x w' hb hpre K hK
        simp [preds, Region.binds, phi, MP.val] at hpre
        simp only [frL, Act.put, List.setIfInBounds_toArray, List.set_cons_zero, List.set_cons_succ, Nat.zero_add, Nat.reduceAdd, hpre] at hK ⊢
        have HK := Lib.hid hK
        clear hK
        refine Held.mk ?_
        go_simp
        refine (MI.out w' (HI.out.below (hw.trans (hb.mono hw.size)) (Nat.le_refl _)) (HJ.out.below (hw.trans (hb.mono hw.size)) (Nat.le_refl _))).mono ?_
        rintro e w1 ⟨v, rfl, hO, hb1⟩
        dsimp only
        exact HK.out v w1 (hO.mono hb.size) hb1
      -- 7: Op.build 79 #[(0, Operand.tmp 25), (1, Operand.tmp 30)]
      refine ls_gen (MP.big w4.heap.size n1 L) ?_ ?_
      · intro x w' hb hpre K hK
        simp [preds, Region.binds, phi, MP.val, MP.drow] at hpre
        obtain ⟨hp1, g, cc, hp2, hp3⟩ := hpre
        simp only [frL, Act.put, List.setIfInBounds_toArray, List.set_cons_zero, List.set_cons_succ, Nat.zero_add, Nat.reduceAdd, hp1, hp2] at hK ⊢
        have HK := Lib.hid hK
        clear hK
        refine Held.mk ?_
        go_simp
        exact HK.out (.agg #[.bool n1, .slice g L.length cc]) w' ⟨_, rfl, g, cc, rfl, hp3⟩ (Below.refl _ _)
      intro x w' hb hp
      simp only [List.cons_append, List.nil_append, phis, MP.val, MP.box, MP.row, frL, Act.put, List.setIfInBounds_toArray, List.set_cons_zero, List.set_cons_succ, Nat.zero_add, Nat.reduceAdd] at hp ⊢
      obtain ⟨h0, h1, h2, h3, h4, h5, h6, h7, -⟩ := hp
      simp only [h0, h1, h2, h3, h4, h5]
      clear h0 h1 h2 h3 h4 h5
      obtain ⟨u, hx7, hD⟩ : ∃ u, x 7 = .agg #[.bool n1, u] ∧ DRow w' w4.heap.size u L := h7
      have hD' := hD
      obtain ⟨g, cc, hu, -⟩ := hD'
      subst hu
      simp only [hx7]
      clear hx7
      have F3 : Blk w' (w.heap.size + 1 + 1) #[.bool false, .slice none 0 0] 79 := E2.below hb k2
      have hw1 : Below w.heap.size w w' := hw.trans (hb.mono hw.size)
      have l2 : w.heap.size + 1 + 1 < w'.heap.size := F3.lt
      clear c00 c01 f00 f01 c10 c11 f10 f11 F0 F1 F2 E2 hb hw hw4
      obtain ⟨c20, c21, f20, f21⟩ := F3.two
      go_wp2_with fail
      refine bodyPost_ret (v := .agg #[.bool n1, .slice g L.length cc]) (by simp [results, Tryz.results57, go_sem, c20, c21, f20, f21]) rfl ⟨_, rfl, ?_, ?_⟩
      · exact (((hD.other (by simpa using k2) _).other (by simpa using k2) _).mono (by omega))
      · go_grown
        all_goals first | exact hw1 | exact hw1.size | omega
end Go.Proofs.YtfagfkfcokmclaaGreatDoor
end

/- The document's numbers: products of whole numbers. -/
section
set_option linter.unusedSimpArgs false
set_option linter.unusedVariables false
namespace Go.Proofs.YtfagfkfcokmclaaGreatDoor
open Go.RowKit

theorem dval_snoc {xs : List Int} {j : Nat} {x : Int} (h : xs[j]? = some x) : dval (xs.take (j + 1)) = dval (xs.take j) + 10 ^ j * x := by
  have hj : j < xs.length := by
    rcases Nat.lt_or_ge j xs.length with h' | h'
    · exact h'
    · rw [List.getElem?_eq_none h'] at h; cases h
  rw [dval_take _ _ hj, getD_at h]
theorem mul_len {xs ys S : List Int} {i : Nat} {k : Int} (gx : Dg xs) (gy : Dg ys) (gs : Dg S) (ns : Nr S) (hi : i < xs.length) (h0 : 0 ≤ k) (h9 : k ≤ 9) (hv : dval S = (dval (xs.take i) + 10 ^ i * k) * dval ys) : S.length ≤ xs.length + ys.length := by
  refine len_le gs ns _ ?_
  rw [hv]
  have h1 := dval_lt (gx.take i)
  have h1' := dval_nonneg (gx.take i)
  rw [List.length_take, show min i xs.length = i by omega] at h1
  have h2 := dval_lt gy
  have h2' := dval_nonneg gy
  have h3 := pow_mono (show i + 1 ≤ xs.length by omega)
  have h4 := pow10_pos i
  have h5 := pow10_pos ys.length
  have h6 : dval (xs.take i) + 10 ^ i * k < 10 ^ (i + 1) := by
    have : (10 : Int) ^ i * k ≤ 10 ^ i * 9 := Int.mul_le_mul_of_nonneg_left h9 (by omega)
    rw [Int.pow_succ]
    omega
  have h7 : 0 ≤ dval (xs.take i) + 10 ^ i * k := by
    have : 0 ≤ (10 : Int) ^ i * k := Int.mul_nonneg (by omega) h0
    omega
  rw [Int.pow_add]
  calc (dval (xs.take i) + 10 ^ i * k) * dval ys ≤ (dval (xs.take i) + 10 ^ i * k) * 10 ^ ys.length := Int.mul_le_mul_of_nonneg_left (by omega) h7
    _ < 10 ^ xs.length * 10 ^ ys.length := Int.mul_lt_mul_of_pos_right (by omega) h5
end Go.Proofs.YtfagfkfcokmclaaGreatDoor
end

/- The document's numbers: quotients of whole numbers. -/
section
set_option linter.unusedSimpArgs false
set_option linter.unusedVariables false
set_option linter.constructorNameAsVariable false
namespace Go.Proofs.YtfagfkfcokmclaaGreatDoor
open Go.RowKit

theorem orow1 (w : World) (base : Nat) (x : Int) (h : base ≤ w.heap.size) : ORow (w.alloc (.cells #[.int .i64 x] 3)) base (.slice (some ⟨w.heap.size, 0, none⟩) 1 1) [x] :=
  ORow.mk' rfl h (Blk.new w #[.int .i64 x] 3) (by simp) (by unfold maxLen; omega) rfl rfl
theorem div_stepI {A Y q r x : Int} (hY : 0 < Y) (hq : q = A / Y) (hr : r = A % Y) (n s : Int) (h1 : s + n * Y = x + 10 * r) (h2 : 0 ≤ s) (h3 : s < Y) : n + 10 * q = (x + 10 * A) / Y ∧ s = (x + 10 * A) % Y := by
  have hA : A = Y * q + r := by rw [hq, hr]; exact (Int.mul_ediv_add_emod A Y).symm
  have he : x + 10 * A = s + Y * (n + 10 * q) := by
    rw [hA, Int.mul_add, Int.mul_add, ← Int.add_assoc, Int.mul_left_comm, Int.mul_comm Y n]
    omega
  rw [he, Int.add_mul_ediv_left _ _ (by omega), Int.ediv_eq_zero_of_lt h2 h3, Int.zero_add, Int.add_mul_emod_self_left, Int.emod_eq_of_lt h2 h3]
  exact ⟨rfl, rfl⟩
theorem few {n Y r x s : Int} (h1 : s + n * Y = x + 10 * r) (hx : x ≤ 9) (hr : r < Y) (hs : Y ≤ s) (hY : 0 < Y) (hn : 0 ≤ n) : n < 9 := by
  rcases Int.lt_or_le n 9 with h | h
  · exact h
  · have := Int.mul_le_mul_of_nonneg_right h (show (0 : Int) ≤ Y by omega)
    omega
theorem few' {n Y r x s : Int} (h1 : s + n * Y = x + 10 * r) (hx : x ≤ 9) (hr : r < Y) (hs : 0 ≤ s) (hY : 0 < Y) : n ≤ 9 := by
  rcases Int.lt_or_le 9 n with h | h
  · have := Int.mul_le_mul_of_nonneg_right (show (10 : Int) ≤ n by omega) (show (0 : Int) ≤ Y by omega)
    omega
  · exact h
theorem r_len {ys R : List Int} (gy : Dg ys) (gr : Dg R) (nr : Nr R) (h : dval R < 10 * dval ys) : R.length ≤ ys.length + 1 := by
  refine len_le gr nr _ ?_
  have := dval_lt gy
  rw [Int.pow_succ]
  omega
theorem cmpL_ge {xs ys : List Int} (gx : Dg xs) (gy : Dg ys) (nx : Nr xs) (ny : Nr ys) : 0 ≤ cmpL xs ys ↔ dval ys ≤ dval xs := by
  rw [cmpL_val gx gy nx ny]
  unfold sgnI
  constructor
  · intro h
    split at h
    · omega
    · split at h <;> omega
  · intro h
    split
    · omega
    · split <;> omega
/-- All stays but one block. -/
structure XR (B S M : Nat) (w w' : World) : Prop where
  bl : Below B w w'
  ke : ∀ q, q < M → q ≠ S → w'.heap[q]? = w.heap[q]?
theorem XR.refl {B S M : Nat} (w : World) : XR B S M w w := ⟨Below.refl _ _, fun _ _ _ => rfl⟩
theorem XR.trans {B S M : Nat} : ∀ a b c, XR B S M a b → XR B S M b c → XR B S M a c := fun _ _ _ h1 h2 => ⟨h1.bl.trans h2.bl, fun q h h' => (h2.ke q h h').trans (h1.ke q h h')⟩
theorem XR.drew {B S M : Nat} (w : World) : XR B S M w { w with drawn := w.drawn + 1 } := ⟨(Below.refl _ _).drew, fun _ _ _ => rfl⟩
theorem XR.blk {B S M q : Nat} {w w' : World} {cs : Array Value} {t : TypeId} (h : XR B S M w w') (hB : Blk w q cs t) (hq : q < M) (hS : q ≠ S) : Blk w' q cs t := by
  unfold Blk at *
  rw [h.ke q hq hS, hB]
theorem XR.irow {B S : Nat} {w w' : World} {a : Option Addr} {n : Nat} {xs : List Int} (h : XR B S w.heap.size w w') (hI : IRow w a n xs) (hS : 0 < n → ∀ b o, a = some ⟨b, o, none⟩ → S < b) : IRow w' a n xs := by
  refine ⟨hI.1, hI.2.1, fun hn => ?_⟩
  obtain ⟨b, o, e, hb, hc⟩ := hI.2.2 hn
  have := hS hn b o e
  have hk := h.ke b hb (by omega)
  refine ⟨b, o, e, Nat.lt_of_lt_of_le hb h.bl.size, fun j x hx => ?_⟩
  rw [← hc j x hx]
  simp [World.cell?, hk]
theorem XR.drow {B S base : Nat} {w w' : World} {v : Value} {xs : List Int} (h : XR B S w.heap.size w w') (hD : DRow w base v xs) (hS : S < base) : DRow w' base v xs := by
  obtain ⟨a, c, h1, h2, h3, h4, h5⟩ := hD
  exact ⟨a, c, h1, h.irow h2 (fun hn b o e => by have := h5 hn b o e; omega), h3, h4, h5⟩
theorem XR.put {B S M : Nat} {w : World} (hB : B ≤ S) (u v : Value) : XR B S M w ((w.setCell ⟨S, 0, none⟩ u).setCell ⟨S, 1, none⟩ v) :=
  ⟨((Below.refl _ _).setCell (by simpa using hB) _).setCell (by simpa using hB) _, fun q _ hq => by rw [Below.heap_setCell _ _ _ _ (by simpa using hq), Below.heap_setCell _ _ _ _ (by simpa using hq)]⟩
/-- A block before its store and behind it. -/
structure JT (k S : Nat) (t : TypeId) (E F : Array Value) (x : Nat → Value) (w : World) : Prop where
  a : x k = undef → Blk w S E t
  b : x k = .bool true → Blk w S F t
theorem JT.same {k S : Nat} {t : TypeId} {E F : Array Value} {x : Nat → Value} {w : World} (h : JT k S t E F x w) {i : Nat} (hi : (i != k) = true) (v : Value) : JT k S t E F (upd x i v) w := by
  have e : upd x i v k = x k := by simp at hi; simp [upd]; omega
  exact ⟨fun h' => h.a (by rw [← e]; exact h'), fun h' => h.b (by rw [← e]; exact h')⟩
theorem JT.put {k S : Nat} {t : TypeId} {E F : Array Value} {x : Nat → Value} {w : World} (h : Blk w S F t) : JT k S t E F (upd x k (.bool true)) w :=
  ⟨fun h' => by simp [upd, undef] at h', fun _ => h⟩
end Go.Proofs.YtfagfkfcokmclaaGreatDoor
end

/- The document's numbers: a value fitted. -/
section
set_option linter.unusedSimpArgs false
set_option linter.unusedVariables false
namespace Go.Proofs.YtfagfkfcokmclaaGreatDoor
open Go.RowKit

theorem irow_cons {w : World} {a : Option Addr} {n : Nat} {y : Int} {zs : List Int} (h : IRow w a n (y :: zs)) : ∃ b o, a = some ⟨b, o, none⟩ ∧ b < w.heap.size ∧ w.cell? ⟨b, o, none⟩ = some (.int .i64 y) ∧ IRow w (some ⟨b, o + 1, none⟩) zs.length zs := by
  obtain ⟨h1, h2, h3⟩ := h
  simp only [List.length_cons] at h1
  obtain ⟨b, o, rfl, hb, hc⟩ := h3 (by omega)
  refine ⟨b, o, rfl, hb, by simpa using hc 0 y rfl, rfl, by omega, fun hn => ⟨b, o + 1, rfl, hb, fun j x hx => ?_⟩⟩
  have := hc (j + 1) x (by simpa using hx)
  rw [show o + 1 + j = o + (j + 1) by omega]
  exact this
theorem drow_tail {w : World} {b o cc : Nat} {zs : List Int} (h : IRow w (some ⟨b, o + 1, none⟩) zs.length zs) (hc : zs.length + 1 ≤ cc) : DRow w 0 (.slice (some ⟨b, o + 1, none⟩) zs.length (cc - 1)) zs :=
  ⟨_, _, rfl, h, by omega, (fun h => by cases h), (fun _ _ _ _ => Nat.zero_le _)⟩
theorem drow_last {w : World} {b o : Nat} {zs : List Int} (hc : zs.length + 1 ≤ 1) : DRow w 0 (.slice (some ⟨b, o, none⟩) zs.length 0) zs := by
  have : zs = [] := List.length_eq_zero_iff.1 (by omega)
  subst this
  exact ⟨_, _, rfl, IRow.nil _ _, Nat.le_refl _, (fun h => by cases h), (fun _ _ _ _ => Nat.zero_le _)⟩
theorem fit_def (neg : Bool) (l : List Int) (s : Nat) (ys T : List Int) (t : Nat) (h : normL (l.drop (s - 9)) (min s 9) = (ys, t)) (hT : trimL ys = T) : fitD neg l s = if decide (18 < T.length) then (0, 0, false) else (if neg then -dval T else dval T, (t : Int), true) := by
  unfold fitD
  rw [h, hT]
end Go.Proofs.YtfagfkfcokmclaaGreatDoor
end

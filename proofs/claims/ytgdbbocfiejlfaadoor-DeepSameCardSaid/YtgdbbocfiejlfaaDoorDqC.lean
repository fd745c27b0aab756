/- The law's small; rows of two and three; two copies made side by side. -/
import Derived.Test.YtgdbbocfiejlfaaDoorDpI
import Derived.Test.YtgdbbocfiejlfaaDoorDpL
import Derived.Test.YtgdbbocfiejlfaaDoorLoC
set_option linter.unusedSimpArgs false
set_option linter.unusedVariables false
set_option linter.constructorNameAsVariable false
namespace Go.Proofs.YtgdbbocfiejlfaaDoor
open Go.RowKit

theorem small_any (h : Nat) (a : Option Addr) (c : Nat) (ts : List (Tr h)) (w : World) (hT : TRowT h w a ts) (hl : ts.length ≤ 9223372036854775807) :
    Calls Tryd.prog 6 #[.slice a ts.length c] w fun e w' => e = .returned (.bool (fewF h 400 ts)) ∧ Below w.heap.size w w' := by
  have CF := Lib.hid (few_any h 400 a c ts w hT hl (by decide) (by decide))
  clear hT
  go_enter Tryd.func6, Tryd.ntmps6
  go_wp2_with fail
  with_reducible refine CF.out.mono ?_
  rintro e w1 ⟨rfl, hb1⟩
  go_wp2_with fail
  go_returns
  exact ⟨rfl, hb1⟩
theorem trow_two {h : Nat} {w : World} {q : Nat} {a b : Tr h} {c0 c1 c2 c3 c4 d0 d1 d2 d3 d4 : Value} (hB : Blk w q #[c0, c1, c2, c3, c4, d0, d1, d2, d3, d4] 26)
    (HA : TLies All h w a #[c0, c1, c2, c3, c4]) (HB : TLies All h w b #[d0, d1, d2, d3, d4]) : TRowT h w (some ⟨q, 0, none⟩) [a, b] := by
  refine .inr ⟨q, 0, rfl, hB.lt, trivial, fun j x hj => ?_⟩
  match j, hj with
  | 0, hj =>
    obtain rfl : a = x := by simpa using hj
    exact ⟨_, _, _, _, _, hB.cell 0, hB.cell 1, hB.cell 2, hB.cell 3, hB.cell 4, HA⟩
  | 1, hj =>
    obtain rfl : b = x := by simpa using hj
    exact ⟨_, _, _, _, _, hB.cell 5, hB.cell 6, hB.cell 7, hB.cell 8, hB.cell 9, HB⟩
  | j + 2, hj => simp at hj
theorem trow_three {h : Nat} {w : World} {q : Nat} {a b c : Tr h} {c0 c1 c2 c3 c4 d0 d1 d2 d3 d4 e0 e1 e2 e3 e4 : Value} (hB : Blk w q #[c0, c1, c2, c3, c4, d0, d1, d2, d3, d4, e0, e1, e2, e3, e4] 26)
    (HA : TLies All h w a #[c0, c1, c2, c3, c4]) (HB : TLies All h w b #[d0, d1, d2, d3, d4]) (HC : TLies All h w c #[e0, e1, e2, e3, e4]) : TRowT h w (some ⟨q, 0, none⟩) [a, b, c] := by
  refine .inr ⟨q, 0, rfl, hB.lt, trivial, fun j x hj => ?_⟩
  match j, hj with
  | 0, hj =>
    obtain rfl : a = x := by simpa using hj
    exact ⟨_, _, _, _, _, hB.cell 0, hB.cell 1, hB.cell 2, hB.cell 3, hB.cell 4, HA⟩
  | 1, hj =>
    obtain rfl : b = x := by simpa using hj
    exact ⟨_, _, _, _, _, hB.cell 5, hB.cell 6, hB.cell 7, hB.cell 8, hB.cell 9, HB⟩
  | 2, hj =>
    obtain rfl : c = x := by simpa using hj
    exact ⟨_, _, _, _, _, hB.cell 10, hB.cell 11, hB.cell 12, hB.cell 13, hB.cell 14, HC⟩
  | j + 3, hj => simp at hj

abbrev RB (w w' : World) : Prop := Below w.heap.size w w'
/-- A box's first cells. -/
abbrev ZT : Array Value := #[.int .i64 0, .string .empty, .string .empty, .slice none 0 0, .slice none 0 0]
/-- Two copies and two boxes: the boxes are two, and no copy has them. -/
structure JC (N B : Nat) (a b : Tr N) (x : Nat → Value) (w : World) : Prop where
  p : ∀ q, x 4 = .pointer (some ⟨q, 0, none⟩) → Blk w q ZT 26 ∧ B ≤ q
  q : ∀ q, x 5 = .pointer (some ⟨q, 0, none⟩) → Blk w q ZT 26 ∧ B ≤ q
  ne : ∀ q r, x 4 = .pointer (some ⟨q, 0, none⟩) → x 5 = .pointer (some ⟨r, 0, none⟩) → q ≠ r
  s : ∀ ds, x 1 = .agg ds → TLies (fun i => x 4 ≠ .pointer (some ⟨i, 0, none⟩) ∧ x 5 ≠ .pointer (some ⟨i, 0, none⟩)) N w a ds
  t : ∀ ds, x 3 = .agg ds → TLies (fun i => x 4 ≠ .pointer (some ⟨i, 0, none⟩) ∧ x 5 ≠ .pointer (some ⟨i, 0, none⟩)) N w b ds
theorem upd_self (x : Nat → Value) (i : Nat) (v : Value) : upd x i v i = v := by simp [upd]
theorem upd_ne {x : Nat → Value} {i j : Nat} (v : Value) (h : (j != i) = true) : upd x i v j = x j := by
  have : j ≠ i := by simpa using h
  simp [upd, this]
section
variable {N B : Nat} {a b : Tr N} {x : Nat → Value} {w w' : World}
theorem JC.on (H : JC N B a b x w) (hb : RB w w') : JC N B a b x w' :=
  ⟨fun q hq => ⟨(H.p q hq).1.below hb (H.p q hq).1.lt, (H.p q hq).2⟩, fun q hq => ⟨(H.q q hq).1.below hb (H.q q hq).1.lt, (H.q q hq).2⟩, H.ne, fun ds hd => (H.s ds hd).on hb, fun ds hd => (H.t ds hd).on hb⟩
theorem JC.oth (H : JC N B a b x w) (i : Nat) (v : Value) (hi : (i == 0 || i == 2) = true) : JC N B a b (upd x i v) w := by
  have h : i = 0 ∨ i = 2 := by simpa using hi
  have e1 : upd x i v 1 = x 1 := upd_ne _ (by rcases h with rfl | rfl <;> rfl)
  have e3 : upd x i v 3 = x 3 := upd_ne _ (by rcases h with rfl | rfl <;> rfl)
  have e4 : upd x i v 4 = x 4 := upd_ne _ (by rcases h with rfl | rfl <;> rfl)
  have e5 : upd x i v 5 = x 5 := upd_ne _ (by rcases h with rfl | rfl <;> rfl)
  constructor
  · rw [e4]; exact H.p
  · rw [e5]; exact H.q
  · rw [e4, e5]; exact H.ne
  · rw [e1, e4, e5]; exact H.s
  · rw [e3, e4, e5]; exact H.t
theorem JC.far (H : JC N B a b x w) : ∀ i, w.heap.size ≤ i → x 4 ≠ .pointer (some ⟨i, 0, none⟩) ∧ x 5 ≠ .pointer (some ⟨i, 0, none⟩) := fun i hi =>
  ⟨fun e => by have := (H.p i e).1.lt; omega, fun e => by have := (H.q i e).1.lt; omega⟩
theorem JC.copyA (H : JC N B a b x w) {ds : Array Value} (hd : TLies (fun i => w.heap.size ≤ i) N w' a ds) (hb : RB w w') : JC N B a b (upd x 1 (.agg ds)) w' := by
  have e3 : upd x 1 (.agg ds) 3 = x 3 := upd_ne _ rfl
  have e4 : upd x 1 (.agg ds) 4 = x 4 := upd_ne _ rfl
  have e5 : upd x 1 (.agg ds) 5 = x 5 := upd_ne _ rfl
  have H' := H.on hb
  constructor
  · rw [e4]; exact H'.p
  · rw [e5]; exact H'.q
  · rw [e4, e5]; exact H'.ne
  · rw [e4, e5]
    intro es he
    rw [upd_self] at he
    obtain rfl : ds = es := by simpa using he
    exact hd.go (kept_of (Below.refl _ _)) fun i hi _ => H.far i hi
  · rw [e3, e4, e5]; exact H'.t
theorem JC.copyB (H : JC N B a b x w) {ds : Array Value} (hd : TLies (fun i => w.heap.size ≤ i) N w' b ds) (hb : RB w w') : JC N B a b (upd x 3 (.agg ds)) w' := by
  have e3 : upd x 3 (.agg ds) 1 = x 1 := upd_ne _ rfl
  have e4 : upd x 3 (.agg ds) 4 = x 4 := upd_ne _ rfl
  have e5 : upd x 3 (.agg ds) 5 = x 5 := upd_ne _ rfl
  have H' := H.on hb
  constructor
  · rw [e4]; exact H'.p
  · rw [e5]; exact H'.q
  · rw [e4, e5]; exact H'.ne
  · rw [e3, e4, e5]; exact H'.s
  · rw [e4, e5]
    intro es he
    rw [upd_self] at he
    obtain rfl : ds = es := by simpa using he
    exact hd.go (kept_of (Below.refl _ _)) fun i hi _ => H.far i hi
theorem JC.makeA (H : JC N B a b x w) (hS : B ≤ w.heap.size) : JC N B a b (upd x 4 (.pointer (some ⟨w.heap.size, 0, none⟩))) (w.alloc (.cells ZT 26)) := by
  have e1 : upd x 4 (.pointer (some ⟨w.heap.size, 0, none⟩)) 1 = x 1 := upd_ne _ rfl
  have e3 : upd x 4 (.pointer (some ⟨w.heap.size, 0, none⟩)) 3 = x 3 := upd_ne _ rfl
  have e4 : upd x 4 (.pointer (some ⟨w.heap.size, 0, none⟩)) 4 = .pointer (some ⟨w.heap.size, 0, none⟩) := upd_self _ _ _
  have e5 : upd x 4 (.pointer (some ⟨w.heap.size, 0, none⟩)) 5 = x 5 := upd_ne _ rfl
  have hb : RB w (w.alloc (.cells ZT 26)) := (Below.refl _ _).alloc (Nat.le_refl _) _
  have H' := H.on hb
  have far : ∀ i, (x 4 ≠ .pointer (some ⟨i, 0, none⟩) ∧ x 5 ≠ .pointer (some ⟨i, 0, none⟩)) → i < w.heap.size → (Value.pointer (some ⟨w.heap.size, 0, none⟩) ≠ .pointer (some ⟨i, 0, none⟩) ∧ x 5 ≠ .pointer (some ⟨i, 0, none⟩)) := fun i h hi =>
    ⟨fun e => absurd (show w.heap.size = i from congrArg (fun v => match v with | Value.pointer (some ad) => ad.block | _ => 0) e) (by omega), h.2⟩
  constructor
  · rw [e4]
    intro q hq
    obtain rfl : w.heap.size = q := by simpa using hq
    exact ⟨Blk.new _ _ _, hS⟩
  · rw [e5]; exact H'.q
  · rw [e4, e5]
    intro q r hq hr
    obtain rfl : w.heap.size = q := by simpa using hq
    have := (H.q r hr).1.lt
    omega
  · rw [e1, e4, e5]; exact fun ds hd => (H.s ds hd).go (kept_of hb) far
  · rw [e3, e4, e5]; exact fun ds hd => (H.t ds hd).go (kept_of hb) far
theorem JC.makeB (H : JC N B a b x w) (hS : B ≤ w.heap.size) : JC N B a b (upd x 5 (.pointer (some ⟨w.heap.size, 0, none⟩))) (w.alloc (.cells ZT 26)) := by
  have e1 : upd x 5 (.pointer (some ⟨w.heap.size, 0, none⟩)) 1 = x 1 := upd_ne _ rfl
  have e3 : upd x 5 (.pointer (some ⟨w.heap.size, 0, none⟩)) 3 = x 3 := upd_ne _ rfl
  have e4 : upd x 5 (.pointer (some ⟨w.heap.size, 0, none⟩)) 4 = x 4 := upd_ne _ rfl
  have e5 : upd x 5 (.pointer (some ⟨w.heap.size, 0, none⟩)) 5 = .pointer (some ⟨w.heap.size, 0, none⟩) := upd_self _ _ _
  have hb : RB w (w.alloc (.cells ZT 26)) := (Below.refl _ _).alloc (Nat.le_refl _) _
  have H' := H.on hb
  have far : ∀ i, (x 4 ≠ .pointer (some ⟨i, 0, none⟩) ∧ x 5 ≠ .pointer (some ⟨i, 0, none⟩)) → i < w.heap.size → (x 4 ≠ .pointer (some ⟨i, 0, none⟩) ∧ Value.pointer (some ⟨w.heap.size, 0, none⟩) ≠ .pointer (some ⟨i, 0, none⟩)) := fun i h hi =>
    ⟨h.1, fun e => absurd (show w.heap.size = i from congrArg (fun v => match v with | Value.pointer (some ad) => ad.block | _ => 0) e) (by omega)⟩
  constructor
  · rw [e4]; exact H'.p
  · rw [e5]
    intro q hq
    obtain rfl : w.heap.size = q := by simpa using hq
    exact ⟨Blk.new _ _ _, hS⟩
  · rw [e4, e5]
    intro q r hq hr
    obtain rfl : w.heap.size = r := by simpa using hr
    have := (H.p q hq).1.lt
    omega
  · rw [e1, e4, e5]; exact fun ds hd => (H.s ds hd).go (kept_of hb) far
  · rw [e3, e4, e5]; exact fun ds hd => (H.t ds hd).go (kept_of hb) far
end
/-- A box. -/
def MPpt : RC.MP RB := ⟨fun v _ => ∃ q, v = .pointer (some ⟨q, 0, none⟩), fun _ _ _ h _ => h⟩
/-- Cells. -/
def MPag : RC.MP RB := ⟨fun v _ => ∃ ds, v = .agg ds, fun _ _ _ h _ => h⟩
/-- A box that is filled. -/
theorem put5w {w : World} {p : Nat} {x0 x1 x2 x3 x4 d0 d1 d2 d3 d4 : Value} {t : TypeId} (hB : Blk w p #[x0, x1, x2, x3, x4] t) :
    Blk (((((w.setCell ⟨p, 0, none⟩ d0).setCell ⟨p, 1, none⟩ d1).setCell ⟨p, 2, none⟩ d2).setCell ⟨p, 3, none⟩ d3).setCell ⟨p, 4, none⟩ d4) p #[d0, d1, d2, d3, d4] t ∧
    (∀ q cs t', q ≠ p → Blk w q cs t' → Blk (((((w.setCell ⟨p, 0, none⟩ d0).setCell ⟨p, 1, none⟩ d1).setCell ⟨p, 2, none⟩ d2).setCell ⟨p, 3, none⟩ d3).setCell ⟨p, 4, none⟩ d4) q cs t') ∧
    Kept (fun i => i ≠ p) w (((((w.setCell ⟨p, 0, none⟩ d0).setCell ⟨p, 1, none⟩ d1).setCell ⟨p, 2, none⟩ d2).setCell ⟨p, 3, none⟩ d3).setCell ⟨p, 4, none⟩ d4) ∧
    (∀ n a, n ≤ p → Below n a w → Below n a (((((w.setCell ⟨p, 0, none⟩ d0).setCell ⟨p, 1, none⟩ d1).setCell ⟨p, 2, none⟩ d2).setCell ⟨p, 3, none⟩ d3).setCell ⟨p, 4, none⟩ d4)) :=
  ⟨((((hB.set 0 _).set 1 _).set 2 _).set 3 _).set 4 _, fun q cs t' e h => ((((h.other e _).other e _).other e _).other e _).other e _,
    (((((set_kept (fun _ h => h)).trans (set_kept (fun _ h => h))).trans (set_kept (fun _ h => h))).trans (set_kept (fun _ h => h))).trans (set_kept (fun _ h => h))),
    fun n a hn h => ((((h.setCell (p := ⟨p, 0, none⟩) hn _).setCell (p := ⟨p, 1, none⟩) hn _).setCell (p := ⟨p, 2, none⟩) hn _).setCell (p := ⟨p, 3, none⟩) hn _).setCell (p := ⟨p, 4, none⟩) hn _⟩
end Go.Proofs.YtgdbbocfiejlfaaDoor

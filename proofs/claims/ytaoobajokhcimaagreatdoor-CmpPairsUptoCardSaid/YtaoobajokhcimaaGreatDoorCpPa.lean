/- An own row of one value, appended to, as a step of a region that draws; two boxes, made and filled in a region. -/
import Derived.Test.YtaoobajokhcimaaGreatDoorCpF
import Derived.Test.YtaoobajokhcimaaGreatDoorMgC
import Derived.Deep.RegionLawGrows
set_option linter.unusedSimpArgs false
set_option linter.unusedVariables false
set_option linter.constructorNameAsVariable false
namespace Go.Proofs.YtaoobajokhcimaaGreatDoor
open Go.RowKit Go.Sort

theorem step_append_more {ops : Array Oper} {o : Oper} {act : Act} {w : World} {K : Act → World → Prop} {Q : Exit → Act → World → Prop} {E : Prop} (hg : o.guard = none) (s x : Operand)
    (ho : o.op = .call { callee := .builtin .append, args := #[s, x], argTypes := #[46, 46] }) (q : Nat) (p : At) (hs : act.eval s = .slice (some ⟨q, 0, none⟩) 1 1) (hB : Blk w q #[.int .i64 p.k, .int .i64 p.n, .int .i64 p.s, .string p.t, .bool p.b] 24)
    (ax : Option Addr) (c : Nat) (xs : List At) (hx : act.eval x = .slice ax xs.length c) (hA : TRow w ax xs) (hnil : ax = none → c = 0) (hl : xs.length ≤ 1000000)
    (hK : ∀ v w', (∃ a' c', v = .slice a' (p :: xs).length c' ∧ TRow w' a' (p :: xs)) → Below w.heap.size w w' → K (act.put o.dst v) w') :
    if Region.wanted o (yielded ops act.tmps) = true then Oper.wp Tryz.prog o act w K Q else E := by
  obtain ⟨i0, hi, hz0, hz1, hz2⟩ := info_parts infoA
  have hw : Region.wanted o (yielded ops act.tmps) = true := by simp [Region.wanted, hg]
  have hold : ∀ j u, (cellsA [p])[j]? = some u → w.cell? ((⟨q, 0, none⟩ : Addr).add j) = some u := fun j u hj => by
    rw [Addr.add_lit, Nat.zero_add, hB.cell j]
    simpa [cellsA] using hj
  cases xs with
  | nil =>
    rw [if_pos hw]
    have hT : TRow w (some ⟨q, 0, none⟩) [p] := TRow.one hB
    have fin := hK (.slice (some ⟨q, 0, none⟩) 1 1) w ⟨some ⟨q, 0, none⟩, 1, rfl, hT⟩ (Below.refl _ _)
    cases ax with
    | none =>
      obtain rfl := hnil rfl
      have hrun := run_append_owned_none (P := Tryz.prog) (w := w) 0 46 o.type 24 i0 5 Tryz.underlying46 hi (.slice (some ⟨q, 0, none⟩) 1 1) 1 (cellsA [p]) ⟨rfl, .inr ⟨q, 1, _, rfl, Nat.zero_le _, hB, Nat.le_refl _, by unfold maxLen; omega, rfl, rfl⟩⟩
      unfold Oper.wp
      simp only [List.length_nil] at hx
      simp [execOp, ho, resolve, invoke, builtin, hs, hx, hrun, Result.andThen]
      exact fin
    | some ad =>
      have hrun := run_append_room_cells (P := Tryz.prog) w 46 o.type 24 i0 Tryz.underlying46 hi q 0 1 1 ad 0 c [] (by simp) (fun j u hj => by simp at hj) (fun u hu => by cases hu) (by omega) (fun j hj => by simp at hj) (fun j hj => by simp at hj)
      rw [show w.setCells q (0 + 1 * i0.size) [] = w by simp [World.setCells]] at hrun
      unfold Oper.wp
      simp only [List.length_nil] at hx
      simp [execOp, ho, resolve, invoke, builtin, hs, hx, hrun, Result.andThen]
      exact fin
  | cons y r =>
    rcases hA with h0 | ⟨b, o', rfl, hlt, hc⟩
    · cases h0
    refine step_append_grows hg s x 46 ho 24 i0 (.agg #[.int .i64 0, .int .i64 0, .int .i64 0, .string .empty, .bool false]) 5 48 Tryz.underlying46 hi hz0 hz1 hz2 rfl (by decide) (some ⟨q, 0, none⟩) 1 1 (cellsA [p]) hs (fun h => by cases h) (by rw [cellsA_len]; rfl) (fun b' hb' => by cases hb'; exact hold)
      ⟨b, o', none⟩ (y :: r).length c (cellsA (y :: r)) hx (cellsA_len _) (fun j u hj => ?_) (cellsA_one _) (by simp) (by unfold maxLen; omega) (by omega) (fun v' w' h1 h2 => ?_)
    · obtain ⟨k, p', h1, h2⟩ := cellsA_of (y :: r) j u hj
      obtain ⟨y0, y1, y2, y3, y4⟩ := hc k p' h1
      rw [Addr.add_lit]
      rcases h2 with ⟨rfl, rfl⟩ | ⟨rfl, rfl⟩ | ⟨rfl, rfl⟩ | ⟨rfl, rfl⟩ | ⟨rfl, rfl⟩
      all_goals
        try simp only [← Nat.add_assoc]
        assumption
    · rw [← cellsA_app] at h1
      have h1' : w'.ownsRow w.heap.size 24 5 v' (p :: y :: r).length (cellsA (p :: y :: r)) := by
        have e : 1 + (y :: r).length = (p :: y :: r).length := by simp; omega
        rw [e] at h1
        exact h1
      obtain ⟨a', c', rfl, hN, -⟩ := trow_own h1'
      exact hK _ _ ⟨a', c', rfl, hN⟩ ((Below.refl _ w).grown h2 (Nat.le_refl _) (fun k hk => by cases hk))
/-- A row of values. -/
def MPtr (xs : List At) : MP := ⟨fun v w => ∃ a c, v = .slice a xs.length c ∧ TRow w a xs, fun _ _ _ ⟨a, c, h1, h2⟩ hb => ⟨a, c, h1, h2.on hb⟩⟩

/-- Two boxes of the region's own, made at i and j, filled at k and l. -/
structure JP (B : Nat) (t : TypeId) (F G : Array Value) (x : Nat → Value) (w : World) : Prop where
  a : ∀ q, x 4 = .pointer (some ⟨q, 0, none⟩) → B ≤ q ∧ ∃ c1 c2 c3 c4 c5, Blk w q #[c1, c2, c3, c4, c5] t
  b : ∀ q, x 5 = .pointer (some ⟨q, 0, none⟩) → B ≤ q ∧ ∃ c1 c2 c3 c4 c5, Blk w q #[c1, c2, c3, c4, c5] t
  ne : ∀ q p, x 4 = .pointer (some ⟨q, 0, none⟩) → x 5 = .pointer (some ⟨p, 0, none⟩) → q ≠ p
  f : ∀ q, x 6 = .pointer (some ⟨q, 0, none⟩) → x 4 = .pointer (some ⟨q, 0, none⟩) ∧ Blk w q F t
  g : ∀ q, x 7 = .pointer (some ⟨q, 0, none⟩) → x 5 = .pointer (some ⟨q, 0, none⟩) ∧ Blk w q G t
section
variable {B : Nat} {t : TypeId} {F G : Array Value} {x : Nat → Value} {w : World}
theorem JP.val {m : Nat} (hm : m < 4) (v : Value) (h : JP B t F G x w) : JP B t F G (upd x m v) w := by
  have e4 : upd x m v 4 = x 4 := by simp [upd]; omega
  have e5 : upd x m v 5 = x 5 := by simp [upd]; omega
  have e6 : upd x m v 6 = x 6 := by simp [upd]; omega
  have e7 : upd x m v 7 = x 7 := by simp [upd]; omega
  exact ⟨by rw [e4]; exact h.a, by rw [e5]; exact h.b, by rw [e4, e5]; exact h.ne, by rw [e4, e6]; exact h.f, by rw [e5, e7]; exact h.g⟩
theorem JP.makeA (h6 : ∀ q, x 6 ≠ .pointer (some ⟨q, 0, none⟩)) (hB : B ≤ w.heap.size) (c1 c2 c3 c4 c5 : Value) (h : JP B t F G x w) : JP B t F G (upd x 4 (.pointer (some ⟨w.heap.size, 0, none⟩))) (w.alloc (.cells #[c1, c2, c3, c4, c5] t)) := by
  refine ⟨fun q hq => ?_, fun q hq => ?_, fun q p hq hp => ?_, fun q hq => absurd hq (h6 q), fun q hq => ?_⟩
  · obtain rfl : w.heap.size = q := by simpa [upd] using hq
    exact ⟨hB, _, _, _, _, _, Blk.here rfl rfl⟩
  · obtain ⟨h1, d1, d2, d3, d4, d5, h2⟩ := h.b q hq
    exact ⟨h1, _, _, _, _, _, h2.alloc _⟩
  · obtain rfl : w.heap.size = q := by simpa [upd] using hq
    obtain ⟨-, d1, d2, d3, d4, d5, h2⟩ := h.b p hp
    exact fun e => by have := h2.lt; omega
  · obtain ⟨h1, h2⟩ := h.g q hq
    exact ⟨h1, h2.alloc _⟩
theorem JP.makeB (h7 : ∀ q, x 7 ≠ .pointer (some ⟨q, 0, none⟩)) (hB : B ≤ w.heap.size) (c1 c2 c3 c4 c5 : Value) (h : JP B t F G x w) : JP B t F G (upd x 5 (.pointer (some ⟨w.heap.size, 0, none⟩))) (w.alloc (.cells #[c1, c2, c3, c4, c5] t)) := by
  refine ⟨fun q hq => ?_, fun q hq => ?_, fun q p hq hp => ?_, fun q hq => ?_, fun q hq => absurd hq (h7 q)⟩
  · obtain ⟨h1, d1, d2, d3, d4, d5, h2⟩ := h.a q hq
    exact ⟨h1, _, _, _, _, _, h2.alloc _⟩
  · obtain rfl : w.heap.size = q := by simpa [upd] using hq
    exact ⟨hB, _, _, _, _, _, Blk.here rfl rfl⟩
  · obtain rfl : w.heap.size = p := by simpa [upd] using hp
    obtain ⟨-, d1, d2, d3, d4, d5, h2⟩ := h.a q hq
    exact fun e => by have := h2.lt; omega
  · obtain ⟨h1, h2⟩ := h.f q hq
    exact ⟨h1, h2.alloc _⟩
theorem put5 {w : World} {q : Nat} {a b c d e x y z u v : Value} (h : Blk w q #[a, b, c, d, e] t) :
    Blk (((((w.setCell ⟨q, 0, none⟩ x).setCell ⟨q, 1, none⟩ y).setCell ⟨q, 2, none⟩ z).setCell ⟨q, 3, none⟩ u).setCell ⟨q, 4, none⟩ v) q #[x, y, z, u, v] t :=
  ((((h.set 0 _).set 1 _).set 2 _).set 3 _).set 4 _
theorem put5o {w : World} {q p : Nat} {x y z u v : Value} {cs : Array Value} (h : Blk w p cs t) (hne : p ≠ q) :
    Blk (((((w.setCell ⟨q, 0, none⟩ x).setCell ⟨q, 1, none⟩ y).setCell ⟨q, 2, none⟩ z).setCell ⟨q, 3, none⟩ u).setCell ⟨q, 4, none⟩ v) p cs t :=
  ((((h.other hne _).other hne _).other hne _).other hne _).other hne _
theorem put5b {w : World} {q n : Nat} (x y z u v : Value) (hS : n ≤ q) : Below n w (((((w.setCell ⟨q, 0, none⟩ x).setCell ⟨q, 1, none⟩ y).setCell ⟨q, 2, none⟩ z).setCell ⟨q, 3, none⟩ u).setCell ⟨q, 4, none⟩ v) :=
  (((((Below.refl _ _).setCell (by simpa using hS) _).setCell (by simpa using hS) _).setCell (by simpa using hS) _).setCell (by simpa using hS) _).setCell (by simpa using hS) _
theorem JP.putA {q : Nat} {c1 c2 c3 c4 c5 y1 y2 y3 y4 y5 : Value} (hF : F = #[y1, y2, y3, y4, y5]) (hq : x 4 = .pointer (some ⟨q, 0, none⟩)) (hb : Blk w q #[c1, c2, c3, c4, c5] t) (h : JP B t F G x w) :
    JP B t F G (upd x 6 (.pointer (some ⟨q, 0, none⟩))) (((((w.setCell ⟨q, 0, none⟩ y1).setCell ⟨q, 1, none⟩ y2).setCell ⟨q, 2, none⟩ y3).setCell ⟨q, 3, none⟩ y4).setCell ⟨q, 4, none⟩ y5) := by
  have e : ∀ p, x 4 = .pointer (some ⟨p, 0, none⟩) → p = q := fun p hp => by rw [hq] at hp; simpa using hp.symm
  refine ⟨fun p hp => ?_, fun p hp => ?_, fun p r hp hr => h.ne p r hp hr, fun p hp => ?_, fun p hp => ?_⟩
  · obtain rfl := e p hp
    exact ⟨(h.a p hp).1, _, _, _, _, _, put5 hb⟩
  · obtain ⟨h1, d1, d2, d3, d4, d5, h2⟩ := h.b p hp
    exact ⟨h1, _, _, _, _, _, put5o h2 (fun e => h.ne q p hq hp e.symm)⟩
  · obtain rfl : q = p := by simpa [upd] using hp
    subst hF
    exact ⟨hq, put5 hb⟩
  · obtain ⟨h1, h2⟩ := h.g p hp
    exact ⟨h1, put5o h2 (fun e => h.ne q p hq h1 e.symm)⟩
theorem JP.putB {q : Nat} {c1 c2 c3 c4 c5 y1 y2 y3 y4 y5 : Value} (hG : G = #[y1, y2, y3, y4, y5]) (hq : x 5 = .pointer (some ⟨q, 0, none⟩)) (hb : Blk w q #[c1, c2, c3, c4, c5] t) (h : JP B t F G x w) :
    JP B t F G (upd x 7 (.pointer (some ⟨q, 0, none⟩))) (((((w.setCell ⟨q, 0, none⟩ y1).setCell ⟨q, 1, none⟩ y2).setCell ⟨q, 2, none⟩ y3).setCell ⟨q, 3, none⟩ y4).setCell ⟨q, 4, none⟩ y5) := by
  have e : ∀ p, x 5 = .pointer (some ⟨p, 0, none⟩) → p = q := fun p hp => by rw [hq] at hp; simpa using hp.symm
  refine ⟨fun p hp => ?_, fun p hp => ?_, fun p r hp hr => h.ne p r hp hr, fun p hp => ?_, fun p hp => ?_⟩
  · obtain ⟨h1, d1, d2, d3, d4, d5, h2⟩ := h.a p hp
    exact ⟨h1, _, _, _, _, _, put5o h2 (h.ne p q hp hq)⟩
  · obtain rfl := e p hp
    exact ⟨(h.b p hp).1, _, _, _, _, _, put5 hb⟩
  · obtain ⟨h1, h2⟩ := h.f p hp
    exact ⟨h1, put5o h2 (h.ne p q h1 hq)⟩
  · obtain rfl : q = p := by simpa [upd] using hp
    subst hG
    exact ⟨hq, put5 hb⟩
end
/-- A pointer to a whole block. -/
def MPpt (R : World → World → Prop) : RC.MP R := ⟨fun v _ => ∃ q, v = .pointer (some ⟨q, 0, none⟩), fun _ _ _ h _ => h⟩

theorem pair_plain (op : Int) (a c : At) (h1 : (a.k != 5) = true) (h2 : (c.k != 5) = true) (hop : (decide (op < 13) || decide (18 < op)) = false) : generalF (op - 13 + 19) [a] [c] = valueF op a c := by
  have e : op - 13 + 19 - 19 + 13 = op := by omega
  have h3 : (decide (op - 13 + 19 < 19) || decide (24 < op - 13 + 19)) = false := by simp at hop ⊢; omega
  unfold generalF
  rw [h3, e]
  simp only [Bool.false_eq_true, if_false]
  unfold genF genF rowF rowF pairF besideF
  rw [h1, h2]
  simp only [if_true]
  obtain ⟨v, r, hv⟩ : ∃ v r, valueF op a c = (v, r) := ⟨_, _, rfl⟩
  simp only [bne_self_eq_false, Bool.false_eq_true, if_false, hv]
  cases v <;> by_cases hr : r = 0 <;> simp [hr]
theorem pair_more (op : Int) (a c : At) (r : List At) (hop : (decide (op < 13) || decide (18 < op)) = false) (h : generalF (op - 13 + 19) [a] [c] = (true, 0)) : generalF (op - 13 + 19) (a :: r) [c] = (true, 0) ∧ generalF (op - 13 + 19) [a] (c :: r) = (true, 0) := by
  have h3 : (decide (op - 13 + 19 < 19) || decide (24 < op - 13 + 19)) = false := by simp at hop ⊢; omega
  have e : op - 13 + 19 - 19 + 13 = op := by omega
  unfold generalF at h ⊢
  rw [h3, e] at h ⊢
  simp only [Bool.false_eq_true, if_false] at h ⊢
  have hr : pairF op a c = (true, 0) := by
    obtain ⟨v, z, hv⟩ : ∃ v z, pairF op a c = (v, z) := ⟨_, _, rfl⟩
    unfold genF genF rowF rowF at h
    rw [hv] at h ⊢
    simp only at h
    cases v <;> by_cases hz : z = 0 <;> simp [hz] at h ⊢
  constructor
  · unfold genF rowF
    rw [hr]
    rfl
  · unfold genF rowF
    rw [hr]
    rfl
end Go.Proofs.YtaoobajokhcimaaGreatDoor

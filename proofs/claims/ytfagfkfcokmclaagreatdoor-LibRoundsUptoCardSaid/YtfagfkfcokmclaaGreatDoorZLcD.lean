/- lib.Call at abs, floor, ceiling, round; two boxes made and filled in a drawn region of twelve operations. -/
import Derived.Test.YtfagfkfcokmclaaGreatDoorZLcB
import Derived.Test.YtfagfkfcokmclaaGreatDoorZLbJ
set_option linter.unusedSimpArgs false
set_option linter.unusedVariables false
set_option linter.constructorNameAsVariable false
namespace Go.Proofs.YtfagfkfcokmclaaGreatDoor
open Go.RowKit Go.Sort

/-- A row of one item that a call made. -/
theorem OwnI.one {w : World} {base : Nat} {v : Value} {x : At} (h : OwnI base w v [x]) : ∃ g c, v = .slice (some ⟨g, 0, none⟩) 1 c ∧ base ≤ g ∧ g < w.heap.size ∧ w.cell? ⟨g, 0, none⟩ = some (.int .i64 0) ∧ w.cell? ⟨g, 1, none⟩ = some (.int .i64 x.k) ∧ w.cell? ⟨g, 2, none⟩ = some (.int .i64 x.n) ∧ w.cell? ⟨g, 3, none⟩ = some (.int .i64 x.s) ∧ w.cell? ⟨g, 4, none⟩ = some (.string x.t) ∧ w.cell? ⟨g, 5, none⟩ = some (.bool x.b) := by
  rcases h.2 with ⟨-, h0⟩ | ⟨g, cap, cur, rfl, h1, -⟩
  · cases h0
  · obtain ⟨a, c, he, hI, -⟩ := h.read
    cases he
    rcases hI with h9 | ⟨b, o, he, hb, hc⟩
    · cases h9
    cases he
    obtain ⟨y0, y1, y2, y3, y4, y5⟩ := hc 0 x rfl
    exact ⟨g, cap, rfl, h1, hb, y0, y1, y2, y3, y4, y5⟩
theorem call_abs (x : At) (hk : (x.k == 1 || x.k == 2) = true) (hR : Rt (numN x).1 (numN x).2) (ab cc : Nat) (w : World) (hS : Sp w) (h0 : Arg1 w ab 0 1 0 x) :
    Calls Tryz.prog 9 #[.pointer none, .string ⟨#[97, 98, 115]⟩, .slice (some ⟨ab, 0, none⟩) 1 cc] w (Ans [resA x (max (numN x).1 (-(numN x).1)) ((numN x).2)] w) := by
  refine lcall_of _ _ 1 cc (some ⟨ab, 0, none⟩) rfl _ w (fun W hW => has_abs_1 W (hS.on hW)) (fun W hW => do_abs _ 1 cc (some ⟨ab, 0, none⟩) W (fun V hV => ?_)) ?_ (by show (1 : Nat) ≤ _; omega)
  · exact caround_abs x hk hR ab 0 1 cc V (h0.on (hW.trans (hV.mono hW.size)))
  · intro y hy
    simp only [List.mem_singleton] at hy
    subst hy
    unfold resA
    split
    · show (0 : Nat) ≤ _
      omega
    · show (0 : Nat) ≤ _
      omega
theorem call_floor (x : At) (hk : (x.k == 1 || x.k == 2) = true) (hR : Rt (numN x).1 (numN x).2) (ab cc : Nat) (w : World) (hS : Sp w) (h0 : Arg1 w ab 0 1 0 x) :
    Calls Tryz.prog 9 #[.pointer none, .string ⟨#[102, 108, 111, 111, 114]⟩, .slice (some ⟨ab, 0, none⟩) 1 cc] w (Ans [resA x (floorF (numN x).1 (numN x).2) (0)] w) := by
  refine lcall_of _ _ 1 cc (some ⟨ab, 0, none⟩) rfl _ w (fun W hW => has_floor_1 W (hS.on hW)) (fun W hW => do_floor _ 1 cc (some ⟨ab, 0, none⟩) W (fun V hV => ?_)) ?_ (by show (1 : Nat) ≤ _; omega)
  · exact caround_floor x hk hR ab 0 1 cc V (h0.on (hW.trans (hV.mono hW.size)))
  · intro y hy
    simp only [List.mem_singleton] at hy
    subst hy
    unfold resA
    split
    · show (0 : Nat) ≤ _
      omega
    · show (0 : Nat) ≤ _
      omega
theorem call_ceiling (x : At) (hk : (x.k == 1 || x.k == 2) = true) (hR : Rt (numN x).1 (numN x).2) (ab cc : Nat) (w : World) (hS : Sp w) (h0 : Arg1 w ab 0 1 0 x) :
    Calls Tryz.prog 9 #[.pointer none, .string ⟨#[99, 101, 105, 108, 105, 110, 103]⟩, .slice (some ⟨ab, 0, none⟩) 1 cc] w (Ans [resA x (ceilF (numN x).1 (numN x).2) (0)] w) := by
  refine lcall_of _ _ 1 cc (some ⟨ab, 0, none⟩) rfl _ w (fun W hW => has_ceiling_1 W (hS.on hW)) (fun W hW => do_ceiling _ 1 cc (some ⟨ab, 0, none⟩) W (fun V hV => ?_)) ?_ (by show (1 : Nat) ≤ _; omega)
  · exact caround_ceiling x hk hR ab 0 1 cc V (h0.on (hW.trans (hV.mono hW.size)))
  · intro y hy
    simp only [List.mem_singleton] at hy
    subst hy
    unfold resA
    split
    · show (0 : Nat) ≤ _
      omega
    · show (0 : Nat) ≤ _
      omega
theorem call_round (x : At) (hk : (x.k == 1 || x.k == 2) = true) (hR : Rt (numN x).1 (numN x).2) (ab cc : Nat) (w : World) (hS : Sp w) (h0 : Arg1 w ab 0 1 0 x) :
    Calls Tryz.prog 9 #[.pointer none, .string ⟨#[114, 111, 117, 110, 100]⟩, .slice (some ⟨ab, 0, none⟩) 1 cc] w (Ans [resA x (roundF (numN x).1 (numN x).2) (0)] w) := by
  refine lcall_of _ _ 1 cc (some ⟨ab, 0, none⟩) rfl _ w (fun W hW => has_round_1 W (hS.on hW)) (fun W hW => do_round _ 1 cc (some ⟨ab, 0, none⟩) W (fun V hV => ?_)) ?_ (by show (1 : Nat) ≤ _; omega)
  · exact caround_round x hk hR ab 0 1 cc V (h0.on (hW.trans (hV.mono hW.size)))
  · intro y hy
    simp only [List.mem_singleton] at hy
    subst hy
    unfold resA
    split
    · show (0 : Nat) ≤ _
      omega
    · show (0 : Nat) ≤ _
      omega
def MPpq (R : World → World → Prop) : RC.MP R := ⟨fun v _ => ∃ q, v = .pointer (some ⟨q, 0, none⟩), fun _ _ _ h _ => h⟩
/-- Two boxes of the region's own, made at 8 and 9, filled at 10 and 11. -/
structure JQ (B : Nat) (t : TypeId) (F G : Array Value) (x : Nat → Value) (w : World) : Prop where
  a : ∀ q, x 8 = .pointer (some ⟨q, 0, none⟩) → B ≤ q ∧ ∃ c1 c2 c3 c4 c5, Blk w q #[c1, c2, c3, c4, c5] t
  b : ∀ q, x 9 = .pointer (some ⟨q, 0, none⟩) → B ≤ q ∧ ∃ c1 c2 c3 c4 c5, Blk w q #[c1, c2, c3, c4, c5] t
  ne : ∀ q p, x 8 = .pointer (some ⟨q, 0, none⟩) → x 9 = .pointer (some ⟨p, 0, none⟩) → q ≠ p
  f : ∀ q, x 10 = .pointer (some ⟨q, 0, none⟩) → x 8 = .pointer (some ⟨q, 0, none⟩) ∧ Blk w q F t
  g : ∀ q, x 11 = .pointer (some ⟨q, 0, none⟩) → x 9 = .pointer (some ⟨q, 0, none⟩) ∧ Blk w q G t
section
variable {B : Nat} {t : TypeId} {F G : Array Value} {x : Nat → Value} {w : World}
theorem JQ.val {m : Nat} (hm : m < 8) (v : Value) (h : JQ B t F G x w) : JQ B t F G (upd x m v) w := by
  have e4 : upd x m v 8 = x 8 := by simp [upd]; omega
  have e5 : upd x m v 9 = x 9 := by simp [upd]; omega
  have e6 : upd x m v 10 = x 10 := by simp [upd]; omega
  have e7 : upd x m v 11 = x 11 := by simp [upd]; omega
  exact ⟨by rw [e4]; exact h.a, by rw [e5]; exact h.b, by rw [e4, e5]; exact h.ne, by rw [e4, e6]; exact h.f, by rw [e5, e7]; exact h.g⟩
theorem JQ.makeA (h6 : ∀ q, x 10 ≠ .pointer (some ⟨q, 0, none⟩)) (hB : B ≤ w.heap.size) (c1 c2 c3 c4 c5 : Value) (h : JQ B t F G x w) : JQ B t F G (upd x 8 (.pointer (some ⟨w.heap.size, 0, none⟩))) (w.alloc (.cells #[c1, c2, c3, c4, c5] t)) := by
  refine ⟨fun q hq => ?_, fun q hq => ?_, fun q p hq hp => ?_, fun q hq => absurd hq (h6 q), fun q hq => ?_⟩
  · obtain rfl : w.heap.size = q := by simpa [upd] using hq
    exact ⟨hB, _, _, _, _, _, Blk.here rfl rfl⟩
  · obtain ⟨h1, d1, d2, d3, d4, d5, h2⟩ := h.b q hq
    exact ⟨h1, _, _, _, _, _, h2.alloc _⟩
  · obtain rfl : w.heap.size = q := by simpa [upd] using hq
    obtain ⟨-, d1, d2, d3, d4, d5, h2⟩ := h.b p hp
    exact fun e => by have := h2.lt; omega
  · obtain ⟨h1, h2⟩ := h.g q hq
    exact ⟨h1, h2.alloc _⟩
theorem JQ.makeB (h7 : ∀ q, x 11 ≠ .pointer (some ⟨q, 0, none⟩)) (hB : B ≤ w.heap.size) (c1 c2 c3 c4 c5 : Value) (h : JQ B t F G x w) : JQ B t F G (upd x 9 (.pointer (some ⟨w.heap.size, 0, none⟩))) (w.alloc (.cells #[c1, c2, c3, c4, c5] t)) := by
  refine ⟨fun q hq => ?_, fun q hq => ?_, fun q p hq hp => ?_, fun q hq => ?_, fun q hq => absurd hq (h7 q)⟩
  · obtain ⟨h1, d1, d2, d3, d4, d5, h2⟩ := h.a q hq
    exact ⟨h1, _, _, _, _, _, h2.alloc _⟩
  · obtain rfl : w.heap.size = q := by simpa [upd] using hq
    exact ⟨hB, _, _, _, _, _, Blk.here rfl rfl⟩
  · obtain rfl : w.heap.size = p := by simpa [upd] using hp
    obtain ⟨-, d1, d2, d3, d4, d5, h2⟩ := h.a q hq
    exact fun e => by have := h2.lt; omega
  · obtain ⟨h1, h2⟩ := h.f q hq
    exact ⟨h1, h2.alloc _⟩
theorem put5q {w : World} {q : Nat} {a b c d e x y z u v : Value} (h : Blk w q #[a, b, c, d, e] t) :
    Blk (((((w.setCell ⟨q, 0, none⟩ x).setCell ⟨q, 1, none⟩ y).setCell ⟨q, 2, none⟩ z).setCell ⟨q, 3, none⟩ u).setCell ⟨q, 4, none⟩ v) q #[x, y, z, u, v] t :=
  ((((h.set 0 _).set 1 _).set 2 _).set 3 _).set 4 _
theorem put5oq {w : World} {q p : Nat} {x y z u v : Value} {cs : Array Value} (h : Blk w p cs t) (hne : p ≠ q) :
    Blk (((((w.setCell ⟨q, 0, none⟩ x).setCell ⟨q, 1, none⟩ y).setCell ⟨q, 2, none⟩ z).setCell ⟨q, 3, none⟩ u).setCell ⟨q, 4, none⟩ v) p cs t :=
  ((((h.other hne _).other hne _).other hne _).other hne _).other hne _
theorem put5bq {w : World} {q n : Nat} (x y z u v : Value) (hS : n ≤ q) : Below n w (((((w.setCell ⟨q, 0, none⟩ x).setCell ⟨q, 1, none⟩ y).setCell ⟨q, 2, none⟩ z).setCell ⟨q, 3, none⟩ u).setCell ⟨q, 4, none⟩ v) :=
  (((((Below.refl _ _).setCell (by simpa using hS) _).setCell (by simpa using hS) _).setCell (by simpa using hS) _).setCell (by simpa using hS) _).setCell (by simpa using hS) _
theorem JQ.putA {q : Nat} {c1 c2 c3 c4 c5 y1 y2 y3 y4 y5 : Value} (hF : F = #[y1, y2, y3, y4, y5]) (hq : x 8 = .pointer (some ⟨q, 0, none⟩)) (hb : Blk w q #[c1, c2, c3, c4, c5] t) (h : JQ B t F G x w) :
    JQ B t F G (upd x 10 (.pointer (some ⟨q, 0, none⟩))) (((((w.setCell ⟨q, 0, none⟩ y1).setCell ⟨q, 1, none⟩ y2).setCell ⟨q, 2, none⟩ y3).setCell ⟨q, 3, none⟩ y4).setCell ⟨q, 4, none⟩ y5) := by
  have e : ∀ p, x 8 = .pointer (some ⟨p, 0, none⟩) → p = q := fun p hp => by rw [hq] at hp; simpa using hp.symm
  refine ⟨fun p hp => ?_, fun p hp => ?_, fun p r hp hr => h.ne p r hp hr, fun p hp => ?_, fun p hp => ?_⟩
  · obtain rfl := e p hp
    exact ⟨(h.a p hp).1, _, _, _, _, _, put5q hb⟩
  · obtain ⟨h1, d1, d2, d3, d4, d5, h2⟩ := h.b p hp
    exact ⟨h1, _, _, _, _, _, put5oq h2 (fun e => h.ne q p hq hp e.symm)⟩
  · obtain rfl : q = p := by simpa [upd] using hp
    subst hF
    exact ⟨hq, put5q hb⟩
  · obtain ⟨h1, h2⟩ := h.g p hp
    exact ⟨h1, put5oq h2 (fun e => h.ne q p hq h1 e.symm)⟩
theorem JQ.putB {q : Nat} {c1 c2 c3 c4 c5 y1 y2 y3 y4 y5 : Value} (hG : G = #[y1, y2, y3, y4, y5]) (hq : x 9 = .pointer (some ⟨q, 0, none⟩)) (hb : Blk w q #[c1, c2, c3, c4, c5] t) (h : JQ B t F G x w) :
    JQ B t F G (upd x 11 (.pointer (some ⟨q, 0, none⟩))) (((((w.setCell ⟨q, 0, none⟩ y1).setCell ⟨q, 1, none⟩ y2).setCell ⟨q, 2, none⟩ y3).setCell ⟨q, 3, none⟩ y4).setCell ⟨q, 4, none⟩ y5) := by
  have e : ∀ p, x 9 = .pointer (some ⟨p, 0, none⟩) → p = q := fun p hp => by rw [hq] at hp; simpa using hp.symm
  refine ⟨fun p hp => ?_, fun p hp => ?_, fun p r hp hr => h.ne p r hp hr, fun p hp => ?_, fun p hp => ?_⟩
  · obtain ⟨h1, d1, d2, d3, d4, d5, h2⟩ := h.a p hp
    exact ⟨h1, _, _, _, _, _, put5oq h2 (h.ne p q hp hq)⟩
  · obtain rfl := e p hp
    exact ⟨(h.b p hp).1, _, _, _, _, _, put5q hb⟩
  · obtain ⟨h1, h2⟩ := h.f p hp
    exact ⟨h1, put5oq h2 (h.ne p q h1 hq)⟩
  · obtain rfl : q = p := by simpa [upd] using hp
    subst hG
    exact ⟨hq, put5q hb⟩
end

end Go.Proofs.YtfagfkfcokmclaaGreatDoor

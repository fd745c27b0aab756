/- slices.Equal of attributes, at every two rows. -/
import Derived.Test.YtgdbbocfiejlfaaDoorDpU
import Derived.Deep.LoopGhost
set_option linter.unusedSimpArgs false
set_option linter.unusedVariables false
set_option linter.constructorNameAsVariable false
namespace Go.Proofs.YtgdbbocfiejlfaaDoor
open Go.RowKit Go.Shelf

theorem allEq_pr : ∀ (xs ys : List Pr), Lib.allEq (fun x y => decide (x = y)) xs ys = decide (xs = ys)
  | [], [] => rfl
  | [], _ :: _ => rfl
  | _ :: _, [] => rfl
  | x :: xs, y :: ys => by
    have ih := allEq_pr xs ys
    simp only [Lib.allEq, ih, List.cons.injEq]
    by_cases h1 : x = y <;> by_cases h2 : xs = ys <;> simp [h1, h2]
theorem equal_cells {w : World} {b o : Nat} {xs : List Pr} (hc : ∀ j x, xs[j]? = some x → w.cell? ⟨b, o + j * 2, none⟩ = some (.string x.1) ∧ w.cell? ⟨b, o + j * 2 + 1, none⟩ = some (.string x.2)) :
    ∀ j, j < xs.length → ∀ i v, (encP xs[j]!)[i]? = some v → w.cell? ⟨b, o + j * 2 + i, none⟩ = some v := by
  intro j hj i v hv
  obtain ⟨y0, y1⟩ := hc j xs[j]! (by rw [getElem!_pos xs j hj]; exact List.getElem?_eq_getElem hj)
  match i, hv with
  | 0, hv => cases hv; exact y0
  | 1, hv => cases hv; exact y1
  | i + 2, hv => cases hv
/-- No element on either side. -/
theorem equal_none (a b : Option Addr) (c d : Nat) (w : World) :
    Calls Tryd.prog 14 #[.slice a 0 c, .slice b 0 d] w fun e w' => e = .returned (.bool true) ∧ ∃ q, w' = w.drewN q := by
  go_enter Tryd.func14, Tryd.ntmps14
  go_wp2
  go_loopg [13] 0 (fun g s13 wr => s13 = .int .i64 0 ∧ wr = w)
  case atStart => exact ⟨rfl, rfl⟩
  case round =>
    obtain ⟨rfl, rfl⟩ := hrel
    go_wp2
    go_ret
    exact ⟨rfl, 0, (World.drewN_zero _).symm⟩
theorem equal_len (a b : Option Addr) (n m c d : Nat) (hn : n ≤ 1000000) (hm : m ≤ 1000000) (hnm : n ≠ m) (w : World) :
    Calls Tryd.prog 14 #[.slice a n c, .slice b m d] w fun e w' => e = .returned (.bool false) ∧ ∃ q, w' = w.drewN q := by
  go_enter Tryd.func14, Tryd.ntmps14
  go_wp2
  go_ret
  exact ⟨rfl, 0, (World.drewN_zero _).symm⟩
theorem equal_any (a b : Option Addr) (c d : Nat) (xs ys : List Pr) (w : World) (hX : PRow All w a xs) (hY : PRow All w b ys) (lx : xs.length ≤ 1000000) (ly : ys.length ≤ 1000000) :
    Calls Tryd.prog 14 #[.slice a xs.length c, .slice b ys.length d] w fun e w' => e = .returned (.bool (decide (xs = ys))) ∧ ∃ q, w' = w.drewN q := by
  by_cases hl : xs.length = ys.length
  · by_cases hx : xs = []
    · subst hx
      obtain rfl : ys = [] := List.length_eq_zero_iff.1 hl.symm
      exact equal_none a b c d w
    · have hy : ys ≠ [] := fun e => hx (List.length_eq_zero_iff.1 (by rw [hl, e]; rfl))
      obtain ⟨b1, o1, rfl, -, -, hc1⟩ := hX.resolve_left hx
      obtain ⟨b2, o2, rfl, -, -, hc2⟩ := hY.resolve_left hy
      have h := AnyQ.slices_Equal Tryd.eqP 2 Tryd.isAgg33 Tryd.sizeOf33 encP (fun _ => rfl) (fun x y => decide (x = y)) neq_pair b1 o1 xs.length c b2 o2 ys.length d xs ys w (Nat.le_refl _) (Nat.le_refl _) (by omega) (by omega) (equal_cells hc1) (equal_cells hc2)
      rw [List.take_length, List.take_length, allEq_pr] at h
      exact h
  · have := equal_len a b xs.length ys.length c d lx ly hl w
    rw [show decide (xs = ys) = false from decide_eq_false fun e => hl (by rw [e])]
    exact this
end Go.Proofs.YtgdbbocfiejlfaaDoor

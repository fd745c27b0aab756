/- The document's numbers: digits compared. -/
import Derived.Test.YtgbghbeolndfiaaGreatDoorDiC
import Derived.Test.YtgbghbeolndfiaaGreatDoorDeE
import Derived.BigQuiet
set_option linter.unusedSimpArgs false
set_option linter.unusedVariables false
namespace Go.Proofs.YtgbghbeolndfiaaGreatDoor
open Go.RowKit

theorem getD_at {xs : List Int} {j : Nat} {x : Int} (h : xs[j]? = some x) : xs.getD j 0 = x := by rw [List.getD, h]; rfl
set_option maxRecDepth 100000 in
set_option maxHeartbeats 2000000 in
theorem dcmp_any (a b : Option Addr) (c d : Nat) (xs ys : List Int) (w : World) (hI : IRow w a xs.length xs) (hJ : IRow w b ys.length ys) (hl : xs.length ≤ 1000000) (hm : ys.length ≤ 1000000) : Calls Tryz.prog 80 #[.slice a xs.length c, .slice b ys.length d] w fun e w' =>
    e = .returned (.int .i64 (cmpL xs ys)) ∧ Below w.heap.size w w' := by
  have HI := Lib.hid hI
  have HJ := Lib.hid hJ
  clear hI hJ
  cases e0 : ((xs.length : Int) == (ys.length : Int))
  · have hne : (xs.length == ys.length) = false := by simp at e0 ⊢; omega
    cases e1 : decide (xs.length < ys.length)
    · have hc : cmpL xs ys = 1 := by
        have h : ¬ xs.length < ys.length := by simp at e1; omega
        unfold cmpL; rw [hne]; simp [h]
      rw [hc]
      clear hc hne
      go_enter Tryz.func80, Tryz.ntmps80
      go_wp2_with fail
      go_returns
      exact ⟨rfl, Below.refl _ _⟩
    · have hc : cmpL xs ys = -1 := by
        have h : xs.length < ys.length := by simp at e1; omega
        unfold cmpL; rw [hne]; simp [h]
      rw [hc]
      clear hc hne
      go_enter Tryz.func80, Tryz.ntmps80
      go_wp2_with fail
      go_returns
      exact ⟨rfl, Below.refl _ _⟩
  · have he : xs.length = ys.length := by simp at e0; omega
    have hc : cmpL xs ys = cmpI xs ys xs.length := by unfold cmpL; rw [he]; simp
    rw [hc]
    obtain ⟨r, hr⟩ : ∃ r, r = cmpI xs ys xs.length := ⟨_, rfl⟩
    rw [← hr]
    have HR := Lib.hid hr
    clear hr hc
    go_enter Tryz.func80, Tryz.ntmps80
    go_wp2_with fail
    go_loopg [5] (xs.length) (fun m xv wr => m ≤ xs.length ∧ xv = .int .i64 ((m : Int) - 1) ∧ r = cmpI xs ys m ∧ Below w.heap.size w wr)
    case atStart =>
      exact ⟨Nat.le_refl _, by rw [he], HR.out, Below.refl _ _⟩
    case round =>
      obtain ⟨hm', rfl, ht, hw⟩ := hrel
      cases gk with
      | zero =>
        have ht : r = 0 := ht
        subst ht
        go_wp2_with fail
        go_returns
        exact ⟨rfl, hw⟩
      | succ j =>
        obtain ⟨x, hx, -⟩ := at_lt xs (show j < xs.length by omega)
        obtain ⟨y, hy, -⟩ := at_lt ys (show j < ys.length by omega)
        obtain ⟨p, o, rfl, hp, y0⟩ := irow_at HI.out hx
        obtain ⟨q, t, rfl, hq, y1⟩ := irow_at HJ.out hy
        have z0 := (hw.cell (p := ⟨p, o + j, none⟩) hp).trans y0
        have z1 := (hw.cell (p := ⟨q, t + j, none⟩) hq).trans y1
        rw [cmpI, getD_at hx, getD_at hy] at ht
        have HT := Lib.hid ht
        clear ht hx hy y0 y1
        have i1 : ((j + 1 : Nat) : Int) - 1 = (j : Int) := by omega
        have i3 : IntKind.i64.wrap ((j : Int) - 1) = (j : Int) - 1 := IntWalk.i64_in _ (by omega)
        have hj1 : j < xs.length := by omega
        have hj2 : j < ys.length := by omega
        cases e1 : (x == y)
        · cases e2 : decide (x < y)
          · have hr : r = 1 := by rw [HT.out, e1, e2]; rfl
            subst hr
            go_wp2_with fail
            go_quiet (fail)
            go_wp2_with fail
            go_quiet (fail)
            go_wp2_with fail
            go_returns
            exact ⟨rfl, below_drewN (below_drewN hw _) _⟩
          · have hr : r = -1 := by rw [HT.out, e1, e2]; rfl
            subst hr
            go_wp2_with fail
            go_quiet (fail)
            go_wp2_with fail
            go_quiet (fail)
            go_wp2_with fail
            go_returns
            exact ⟨rfl, below_drewN (below_drewN hw _) _⟩
        · go_wp2_with fail
          go_quiet (fail)
          go_wp2_with fail
          go_roundg j
          case measure => omega
          case rel =>
            exact ⟨by omega, rfl, by rw [HT.out, e1]; rfl, below_drewN hw _⟩
end Go.Proofs.YtgbghbeolndfiaaGreatDoor

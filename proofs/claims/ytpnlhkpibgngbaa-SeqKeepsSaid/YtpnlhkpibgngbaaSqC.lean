/- Ints: what it returns, for every two rows. -/
import Derived.Test.YtpnlhkpibgngbaaSqB
import Derived.Deep.QuietTactic
import Derived.BigQuiet
import Derived.Lib.QuietBelow
set_option linter.unusedSimpArgs false
namespace Go.Proofs.Ytpnlhkpibgngbaa
open Go.RowKit Go.Sort

theorem ints_any (a b : Option Addr) (n m ca cb : Nat) (xs ys : List Int) (w : World) (ha : IRow w a n xs) (hb : IRow w b m ys) :
    Calls Try.prog 22 #[.slice a n ca, .slice b m cb] w fun e w' => e = .returned (.bool (xs == ys)) ∧ Below w.heap.size w w' := by
  obtain rfl := ha.1
  obtain rfl := hb.1
  have A := Lib.hid ha
  have B := Lib.hid hb
  have l1 := ha.2.1
  have l2 := hb.2.1
  clear ha hb
  by_cases hl : xs.length = ys.length
  · go_enter Try.func22, Try.ntmps22
    have hl' : (xs.length : Int) = (ys.length : Int) := by omega
    have hl2 : ((xs.length : Int) != (ys.length : Int)) = false := by simp [hl]
    go_wp2_with fail
    go_loopg [5] (xs.length + 1) (fun m jj wr => ∃ j : Nat, j ≤ xs.length ∧ m + j = xs.length + 1 ∧ jj = .int .i64 j ∧ Below w.heap.size w wr ∧ xs.take j = ys.take j)
    case atStart => exact ⟨0, Nat.zero_le _, by omega, rfl, Below.refl _ _, rfl⟩
    case round =>
      obtain ⟨j, hj, hmj, rfl, hw, hall⟩ := hrel
      have HALL := Lib.hid hall
      clear hall
      by_cases hlt : j < xs.length
      · obtain ⟨x, hx⟩ : ∃ x, xs[j]? = some x := ⟨xs[j], by simp [hlt]⟩
        obtain ⟨y, hy⟩ : ∃ y, ys[j]? = some y := ⟨ys[j]'(by omega), by simp⟩
        obtain ⟨b1, q1, rfl, lb1, hx1⟩ := A.out.2.2 (by omega)
        obtain ⟨b2, q2, rfl, lb2, hx2⟩ := B.out.2.2 (by omega)
        have y1 := hx1 j x hx
        have y2 := hx2 j y hy
        have z1 := hw.cell (p := ⟨b1, q1 + j, none⟩) lb1
        have z2 := hw.cell (p := ⟨b2, q2 + j, none⟩) lb2
        rw [y1] at z1
        rw [y2] at z2
        have HX := Lib.hid hx
        have HY := Lib.hid hy
        clear hx1 hx2 hx hy y1 y2
        have i0 : (0 : Int) ≤ (j : Int) := Int.natCast_nonneg _
        have i1 : (j : Int) < (xs.length : Int) := by omega
        have i2 : (j : Int) < (ys.length : Int) := by omega
        cases hxy : x == y
        · have hne : x ≠ y := by simpa using hxy
          have hxy' : (x != y) = true := by simpa using hne
          go_wp2_with fail
          go_quiet (fail)
          go_wp2_with fail
          go_light
          go_ret
          refine ⟨?_, below_drewN hw nq⟩
          rw [beq_eq_false_iff_ne.2 (fun h => hne (by subst h; have := HX.out.symm.trans HY.out; cases this; rfl))]
          rfl
        · have heq : x = y := by simpa using hxy
          have hxy' : (x != y) = false := by simp [heq]
          go_wp2_with fail
          go_quiet (fail)
          go_wp2_with fail
          go_roundg (gk - 1)
          case measure => omega
          case rel =>
            go_light
            exact ⟨j + 1, by omega, by omega, by go_num, below_drewN hw nq, by rw [List.take_add_one, List.take_add_one, HALL.out, HX.out, HY.out, heq]⟩
      · have hfull : xs = ys := by
          have h1 := HALL.out
          rwa [List.take_of_length_le (by omega), List.take_of_length_le (by omega)] at h1
        have HF := Lib.hid hfull
        clear hfull
        go_wp2_with fail
        go_light
        go_ret
        exact ⟨by rw [HF.out]; simp, hw⟩
  · have hne : (xs == ys) = false := by
      rw [beq_eq_false_iff_ne]
      intro h
      exact hl (by rw [h])
    have HN := Lib.hid hne
    clear hne
    have hl' : ((xs.length : Int) != (ys.length : Int)) = true := by simp; omega
    go_enter Try.func22, Try.ntmps22
    go_wp2_with fail
    go_light
    go_ret
    exact ⟨by rw [HN.out]; rfl, Below.refl _ _⟩
end Go.Proofs.Ytpnlhkpibgngbaa

/- The document's answer for layer 18: what Do returns, for each of its four kinds. -/
import Derived.Test.YtpnlhkpibgngbaaSqE
set_option linter.unusedSimpArgs false
namespace Go.Proofs.Ytpnlhkpibgngbaa
open Go.RowKit Go.Sort

set_option maxRecDepth 100000 in
theorem do0_any (al am : Option Addr) (n cl m cm : Nat) (xs : List Int) (a b : Int) (w : World) (h : IRow w al n xs) (hn : n ≤ 1000000) :
    Calls Try.prog 23 #[.int .i64 0, .slice al n cl, .int .i64 a, .int .i64 b, .slice am m cm] w (Own xs.reverse w) := by
  obtain rfl := h.1
  have A := Lib.hid h
  clear h
  go_enter Try.func23, Try.ntmps23
  go_wp2_with fail
  go_loopg [11, 13] (xs.length + 1) (fun m v pp wr => ∃ j : Nat, j ≤ xs.length ∧ m + j = xs.length + 1 ∧ pp = .int .i64 (j + 1) ∧ Below w.heap.size w wr ∧ ORow wr w.heap.size v (xs.reverse.take j))
  case atStart => exact ⟨0, Nat.zero_le _, by omega, by simp, Below.refl _ _, ORow.nil _ _⟩
  case round =>
    obtain ⟨j, hj, hmj, rfl, hw, hown⟩ := hrel
    have H := Lib.hid hown
    clear hown
    by_cases hlt : j < xs.length
    · obtain ⟨x, hx⟩ : ∃ x, xs[j]? = some x := ⟨xs[j], by simp [hlt]⟩
      obtain ⟨y, hy⟩ : ∃ y, xs[xs.length - (j + 1)]? = some y := ⟨xs[xs.length - (j + 1)]'(by omega), by simp⟩
      obtain ⟨b1, q1, rfl, lb1, hx1⟩ := A.out.2.2 (by omega)
      have y1 := hx1 j x hx
      have y2 := hx1 _ y hy
      have z1 := hw.cell (p := ⟨b1, q1 + j, none⟩) lb1
      have z2 := hw.cell (p := ⟨b1, q1 + (xs.length - (j + 1)), none⟩) lb1
      rw [y1] at z1
      rw [y2] at z2
      have HX := Lib.hid hy
      clear hx1 hx hy y1 y2
      have i0 : (0 : Int) ≤ (j : Int) := Int.natCast_nonneg _
      have i1 : (j : Int) < (xs.length : Int) := by omega
      have i2 : (j : Int) + 1 ≤ (xs.length : Int) := by omega
      go_wp2_with (at_builtin; refine wpList_app rfl _ _ rfl w.heap.size _ _ [y] rfl (H.out.below ((Below.refl _ _).alloc (Nat.le_refl _) (.cells #[.int .i64 y] 3)) (Nat.le_refl _)) (some ⟨wr.heap.size, 0, none⟩) 1 1 rfl (irow1 _ _ _) (fun h => by cases h) ?c1 ?c2 ?_)
      case c1 => simp; omega
      case c2 => have := hw.size; simp; omega
      intro v' w1 hO1 hb1
      have H1 := Lib.hid hO1
      clear hO1
      go_wp2_with fail
      go_roundg (gk - 1)
      case measure => omega
      case rel =>
        go_light
        refine ⟨j + 1, by omega, by omega, by go_num, (hw.alloc hw.size _).trans hb1, ?_⟩
        have e : xs.reverse[j]? = some y := by rw [List.getElem?_reverse (by omega), show xs.length - 1 - j = xs.length - (j + 1) by omega, HX.out]
        rw [List.take_add_one, e]
        exact H1.out
    · have hfull : xs.reverse.take j = xs.reverse := List.take_of_length_le (by simp; omega)
      rw [hfull] at H
      have i1 : (xs.length : Int) < (j : Int) + 1 := by omega
      clear hfull
      go_wp2_with fail
      go_light
      go_ret
      exact ⟨u11, rfl, H.out, hw⟩

set_option maxRecDepth 100000 in
theorem do1_any (al am : Option Addr) (n cl m cm : Nat) (xs : List Int) (a b : Int) (w : World) (h : IRow w al n xs) (hn : n ≤ 1000000) :
    Calls Try.prog 23 #[.int .i64 1, .slice al n cl, .int .i64 a, .int .i64 b, .slice am m cm] w (Own (remF xs a) w) := by
  obtain rfl := h.1
  have A := Lib.hid h
  clear h
  go_enter Try.func23, Try.ntmps23
  go_wp2_with fail
  go_loopg [11, 13] (xs.length + 1) (fun m v pp wr => ∃ j : Nat, j ≤ xs.length ∧ m + j = xs.length + 1 ∧ pp = .int .i64 (j + 1) ∧ Below w.heap.size w wr ∧ ORow wr w.heap.size v (remF (xs.take j) a))
  case atStart => exact ⟨0, Nat.zero_le _, by omega, by simp, Below.refl _ _, by rw [show remF (xs.take 0) a = [] by unfold remF; simp; omega]; exact ORow.nil _ _⟩
  case round =>
    obtain ⟨j, hj, hmj, rfl, hw, hown⟩ := hrel
    have H := Lib.hid hown
    clear hown
    by_cases hlt : j < xs.length
    · obtain ⟨x, hx⟩ : ∃ x, xs[j]? = some x := ⟨xs[j], by simp [hlt]⟩
      obtain ⟨b1, q1, rfl, lb1, hx1⟩ := A.out.2.2 (by omega)
      have y1 := hx1 j x hx
      have z1 := hw.cell (p := ⟨b1, q1 + j, none⟩) lb1
      rw [y1] at z1
      have HX := Lib.hid hx
      clear hx1 hx y1
      have i0 : (0 : Int) ≤ (j : Int) := Int.natCast_nonneg _
      have i1 : (j : Int) < (xs.length : Int) := by omega
      have i2 : (j : Int) + 1 ≤ (xs.length : Int) := by omega
      by_cases h1 : (j : Int) + 1 = a
      · have e1 : ((j : Int) + 1 != a) = false := by simpa using h1
        have h1h := Lib.hid h1
        clear h1
        go_wp2_with fail
        go_roundg (gk - 1)
        case measure => omega
        case rel =>
          go_light
          exact ⟨j + 1, by omega, by omega, by go_num, hw, by rw [rem_next a HX.out, if_neg (by simpa using h1h.out), List.append_nil]; exact H.out⟩
      · have e1 : ((j : Int) + 1 != a) = true := by simpa using h1
        have hlen : (remF (xs.take j) a).length ≤ xs.length := by have := List.length_take_le j xs; unfold remF cutF; split <;> simp <;> omega
        go_wp2_with (at_builtin; refine wpList_app rfl _ _ rfl w.heap.size _ _ [x] rfl (H.out.below ((Below.refl _ _).alloc (Nat.le_refl _) (.cells #[.int .i64 x] 3)) (Nat.le_refl _)) (some ⟨wr.heap.size, 0, none⟩) 1 1 rfl (irow1 _ _ _) (fun h => by cases h) ?c1 ?c2 ?_)
        case c1 => omega
        case c2 => have := (hw).size; simp; omega
        intro v0 w1 hO0 hb0
        have H0 := Lib.hid hO0
        clear hO0
        have B0 : Below w.heap.size w w1 := ((hw).alloc (hw).size _).trans hb0
        go_wp2_with fail
        go_roundg (gk - 1)
        case measure => omega
        case rel =>
          go_light
          exact ⟨j + 1, by omega, by omega, by go_num, B0, by rw [rem_next a HX.out, if_pos h1]; exact H0.out⟩
    · have hfull : j = xs.length := by omega
      have HF := Lib.hid (show remF (xs.take j) a = remF xs a by rw [hfull, List.take_of_length_le (Nat.le_refl _)])
      have i1 : (xs.length : Int) < (j : Int) + 1 := by omega
      clear hfull
      go_wp2_with fail
      go_light
      go_ret
      exact ⟨u11, rfl, by rw [← HF.out]; exact H.out, hw⟩

set_option maxRecDepth 100000 in
theorem do3_any (al am : Option Addr) (n cl m cm : Nat) (xs : List Int) (a b : Int) (w : World) (h : IRow w al n xs) (hn : n ≤ 1000000) :
    Calls Try.prog 23 #[.int .i64 3, .slice al n cl, .int .i64 a, .int .i64 b, .slice am m cm] w (Own (partF xs a b) w) := by
  obtain rfl := h.1
  have A := Lib.hid h
  clear h
  go_enter Try.func23, Try.ntmps23
  go_wp2_with fail
  go_loopg [11, 13] (xs.length + 1) (fun m v pp wr => ∃ j : Nat, j ≤ xs.length ∧ m + j = xs.length + 1 ∧ pp = .int .i64 (j + 1) ∧ Below w.heap.size w wr ∧ ORow wr w.heap.size v (partF (xs.take j) a b))
  case atStart => exact ⟨0, Nat.zero_le _, by omega, by simp, Below.refl _ _, by rw [show partF (xs.take 0) a b = [] by simp [partF]]; exact ORow.nil _ _⟩
  case round =>
    obtain ⟨j, hj, hmj, rfl, hw, hown⟩ := hrel
    have H := Lib.hid hown
    clear hown
    by_cases hlt : j < xs.length
    · obtain ⟨x, hx⟩ : ∃ x, xs[j]? = some x := ⟨xs[j], by simp [hlt]⟩
      obtain ⟨b1, q1, rfl, lb1, hx1⟩ := A.out.2.2 (by omega)
      have y1 := hx1 j x hx
      have z1 := hw.cell (p := ⟨b1, q1 + j, none⟩) lb1
      rw [y1] at z1
      have HX := Lib.hid hx
      clear hx1 hx y1
      have i0 : (0 : Int) ≤ (j : Int) := Int.natCast_nonneg _
      have i1 : (j : Int) < (xs.length : Int) := by omega
      have i2 : (j : Int) + 1 ≤ (xs.length : Int) := by omega
      have hlen : (partF (xs.take j) a b).length ≤ xs.length := by unfold partF; simp; omega
      by_cases h1 : a ≤ (j : Int) + 1
      · by_cases h2 : (j : Int) + 1 < b
        · go_wp2_with (at_builtin; refine wpList_app rfl _ _ rfl w.heap.size _ _ [x] rfl (H.out.below ((Below.refl _ _).alloc (Nat.le_refl _) (.cells #[.int .i64 x] 3)) (Nat.le_refl _)) (some ⟨wr.heap.size, 0, none⟩) 1 1 rfl (irow1 _ _ _) (fun h => by cases h) ?c1 ?c2 ?_)
          case c1 => omega
          case c2 => have := (hw).size; simp; omega
          intro v0 w1 hO0 hb0
          have H0 := Lib.hid hO0
          clear hO0
          have B0 : Below w.heap.size w w1 := ((hw).alloc (hw).size _).trans hb0
          go_wp2_with fail
          go_roundg (gk - 1)
          case measure => omega
          case rel =>
            go_light
            exact ⟨j + 1, by omega, by omega, by go_num, B0, by rw [part_next a b HX.out, if_pos ⟨h1, h2⟩]; exact H0.out⟩
        · have h2' : b ≤ (j : Int) + 1 := by omega
          go_wp2_with fail
          go_roundg (gk - 1)
          case measure => omega
          case rel =>
            go_light
            exact ⟨j + 1, by omega, by omega, by go_num, hw, by rw [part_next a b HX.out, if_neg (by omega), List.append_nil]; exact H.out⟩
      · have h1' : (j : Int) + 1 < a := by omega
        go_wp2_with fail
        go_roundg (gk - 1)
        case measure => omega
        case rel =>
          go_light
          exact ⟨j + 1, by omega, by omega, by go_num, hw, by rw [part_next a b HX.out, if_neg (by omega), List.append_nil]; exact H.out⟩
    · have hfull : j = xs.length := by omega
      have HF := Lib.hid (show partF (xs.take j) a b = partF xs a b by rw [hfull, List.take_of_length_le (Nat.le_refl _)])
      have i1 : (xs.length : Int) < (j : Int) + 1 := by omega
      clear hfull
      go_wp2_with fail
      go_light
      go_ret
      exact ⟨u11, rfl, by rw [← HF.out]; exact H.out, hw⟩
end Go.Proofs.Ytpnlhkpibgngbaa

/- The document's answer for layer 18: what Do returns at the kind Insert. -/
import Derived.Test.YtpnlhkpibgngbaaSqF
set_option linter.unusedSimpArgs false
namespace Go.Proofs.Ytpnlhkpibgngbaa
open Go.RowKit Go.Sort

theorem insF_len (xs ys : List Int) (k : Int) (j : Nat) : (insF xs ys k j).length ≤ xs.length + ys.length := by
  unfold insF putF
  have := List.length_take_le j xs
  split
  · simp; omega
  · split
    · simp; omega
    · split <;> simp <;> omega

set_option maxRecDepth 100000 in
set_option maxHeartbeats 1000000 in
theorem do2_any (al am : Option Addr) (n cl m cm : Nat) (xs ys : List Int) (a b : Int) (w : World) (h : IRow w al n xs) (hn : n ≤ 1000000) (hy : IRow w am m ys) (hm : m ≤ 1000000) (h0 : am = none → cm = 0) :
    Calls Try.prog 23 #[.int .i64 2, .slice al n cl, .int .i64 a, .int .i64 b, .slice am m cm] w (Own (putF xs ys (plF xs.length a)) w) := by
  obtain rfl := h.1
  have A := Lib.hid h
  clear h
  obtain rfl := hy.1
  have Y := Lib.hid hy
  clear hy
  by_cases h9 : a < 1
  · go_enter Try.func23, Try.ntmps23
    go_wp2_with (at_builtin; refine wpList_app rfl _ _ rfl w.heap.size _ [] ys rfl (ORow.nil w w.heap.size) am ys.length cm rfl Y.out h0 ?c1 (Nat.le_refl _) ?_)
    case c1 => simp; omega
    intro v w0 hO0 b0
    have O0 := Lib.hid hO0
    clear hO0
    go_wp2_with fail
    go_loopg [11, 13] (xs.length + 1) (fun m v pp wr => ∃ j : Nat, j ≤ xs.length ∧ m + j = xs.length + 1 ∧ pp = .int .i64 (j + 1) ∧ Below w.heap.size w wr ∧ ORow wr w.heap.size v (insF xs ys a j))
    case atStart => exact ⟨0, Nat.zero_le _, by omega, by simp, b0, by rw [show insF xs ys a 0 = [] ++ ys by unfold insF; rw [if_pos (by omega)]; simp]; exact O0.out⟩
    case round =>
      obtain ⟨j, hj, hmj, rfl, hw, hown⟩ := hrel
      have H := Lib.hid hown
      clear hown
      by_cases hlt : j < xs.length
      · obtain ⟨x, hx⟩ : ∃ x, xs[j]? = some x := ⟨xs[j], by simp [hlt]⟩
        obtain ⟨b1, q1, rfl, lb1, hx1⟩ := A.out.2.2 (by omega)
        have y1 := hx1 j x hx
        have z1 := hw.cell (p := ⟨b1, q1 + j, none⟩) lb1
        rw [y1] at z1
        have HX := Lib.hid hx
        clear hx1 hx y1
        have i0 : (0 : Int) ≤ (j : Int) := Int.natCast_nonneg _
        have i1 : (j : Int) < (xs.length : Int) := by omega
        have i2 : (j : Int) + 1 ≤ (xs.length : Int) := by omega
        have hlen := insF_len xs ys a j
        have h1 : ¬ ((j : Int) + 1 = a) := by omega
        have e1 : ((j : Int) + 1 == a) = false := by simpa using h1
        have h2' : a ≤ (xs.length : Int) := by omega
        cases e3 : ((j : Int) + 1 == (xs.length : Int))
        · go_wp2_with (at_builtin; refine wpList_app rfl _ _ rfl w.heap.size _ _ [x] rfl (H.out.below ((Below.refl _ _).alloc (Nat.le_refl _) (.cells #[.int .i64 x] 3)) (Nat.le_refl _)) (some ⟨wr.heap.size, 0, none⟩) 1 1 rfl (irow1 _ _ _) (fun h => by cases h) ?c1 ?c2 ?_)
          case c1 => (try simp only [List.length_append]); omega
          case c2 => have := (hw).size; simp; omega
          intro v0 w1 hO0 hb0
          have H0 := Lib.hid hO0
          clear hO0
          have B0 : Below w.heap.size w w1 := ((hw).alloc (hw).size _).trans hb0
          go_wp2_with fail
          go_roundg (gk - 1)
          case measure => omega
          case rel =>
            go_light
            exact ⟨j + 1, by omega, by omega, by go_num, B0, by rw [ins_next ys a HX.out, if_neg h1, if_neg (by omega), List.append_nil, List.append_nil]; simpa [List.append_assoc] using H0.out⟩
        · go_wp2_with (at_builtin; refine wpList_app rfl _ _ rfl w.heap.size _ _ [x] rfl (H.out.below ((Below.refl _ _).alloc (Nat.le_refl _) (.cells #[.int .i64 x] 3)) (Nat.le_refl _)) (some ⟨wr.heap.size, 0, none⟩) 1 1 rfl (irow1 _ _ _) (fun h => by cases h) ?c1 ?c2 ?_)
          case c1 => (try simp only [List.length_append]); omega
          case c2 => have := (hw).size; simp; omega
          intro v0 w1 hO0 hb0
          have H0 := Lib.hid hO0
          clear hO0
          have B0 : Below w.heap.size w w1 := ((hw).alloc (hw).size _).trans hb0
          go_wp2_with fail
          go_roundg (gk - 1)
          case measure => omega
          case rel =>
            go_light
            exact ⟨j + 1, by omega, by omega, by go_num, B0, by rw [ins_next ys a HX.out, if_neg h1, if_neg (by omega), List.append_nil, List.append_nil]; simpa [List.append_assoc] using H0.out⟩
      · have hfull : j = xs.length := by omega
        have HF := Lib.hid (show insF xs ys a j = putF xs ys (plF xs.length a) by rw [hfull, ins_all])
        have i1 : (xs.length : Int) < (j : Int) + 1 := by omega
        clear hfull
        go_wp2_with fail
        go_light
        go_ret
        exact ⟨u11, rfl, by rw [← HF.out]; exact H.out, hw⟩
  · by_cases h8 : xs.length = 0
    · have h8' : (xs.length : Int) = 0 := by omega
      go_enter Try.func23, Try.ntmps23
      go_wp2_with (at_builtin; refine wpList_app rfl _ _ rfl w.heap.size _ [] ys rfl (ORow.nil w w.heap.size) am ys.length cm rfl Y.out h0 ?c1 (Nat.le_refl _) ?_)
      case c1 => (try simp); omega
      intro v w0 hO0 b0
      have O0 := Lib.hid hO0
      clear hO0
      go_wp2_with fail
      go_loopg [11, 13] (xs.length + 1) (fun m v pp wr => ∃ j : Nat, j ≤ xs.length ∧ m + j = xs.length + 1 ∧ pp = .int .i64 (j + 1) ∧ Below w.heap.size w wr ∧ ORow wr w.heap.size v (insF xs ys a j))
      case atStart => exact ⟨0, Nat.zero_le _, by omega, by simp, b0, by rw [show insF xs ys a 0 = [] ++ ys by unfold insF; rw [if_pos (by omega)]; simp]; exact O0.out⟩
      case round =>
        obtain ⟨j, hj, hmj, rfl, hw, hown⟩ := hrel
        have H := Lib.hid hown
        clear hown
        by_cases hlt : j < xs.length
        · omega
        · have hfull : j = xs.length := by omega
          have HF := Lib.hid (show insF xs ys a j = putF xs ys (plF xs.length a) by rw [hfull, ins_all])
          have i1 : (xs.length : Int) < (j : Int) + 1 := by omega
          clear hfull
          go_wp2_with fail
          go_light
          go_ret
          exact ⟨u11, rfl, by rw [← HF.out]; exact H.out, hw⟩
    · have h8' : ¬ (xs.length : Int) = 0 := by omega
      go_enter Try.func23, Try.ntmps23
      go_wp2_with fail
      go_loopg [11, 13] (xs.length + 1) (fun m v pp wr => ∃ j : Nat, j ≤ xs.length ∧ m + j = xs.length + 1 ∧ pp = .int .i64 (j + 1) ∧ Below w.heap.size w wr ∧ ORow wr w.heap.size v (insF xs ys a j))
      case atStart => exact ⟨0, Nat.zero_le _, by omega, by simp, Below.refl _ _, by rw [show insF xs ys a 0 = [] by unfold insF; rw [if_neg (by omega), if_neg (by simp; omega), if_neg (by omega)]; simp]; exact ORow.nil _ _⟩
      case round =>
        obtain ⟨j, hj, hmj, rfl, hw, hown⟩ := hrel
        have H := Lib.hid hown
        clear hown
        by_cases hlt : j < xs.length
        · obtain ⟨x, hx⟩ : ∃ x, xs[j]? = some x := ⟨xs[j], by simp [hlt]⟩
          obtain ⟨b1, q1, rfl, lb1, hx1⟩ := A.out.2.2 (by omega)
          have y1 := hx1 j x hx
          have z1 := hw.cell (p := ⟨b1, q1 + j, none⟩) lb1
          rw [y1] at z1
          have HX := Lib.hid hx
          clear hx1 hx y1
          have i0 : (0 : Int) ≤ (j : Int) := Int.natCast_nonneg _
          have i1 : (j : Int) < (xs.length : Int) := by omega
          have i2 : (j : Int) + 1 ≤ (xs.length : Int) := by omega
          have hlen := insF_len xs ys a j
          by_cases h1 : (j : Int) + 1 = a
          · have e1 : ((j : Int) + 1 == a) = true := by simpa using h1
            have h2 : ¬ ((xs.length : Int) < a) := by omega
            have h2' : a ≤ (xs.length : Int) := by omega
            have h1h := Lib.hid h1
            clear h1
            cases e3 : ((j : Int) + 1 == (xs.length : Int))
            · go_wp2_with (at_builtin; refine wpList_app rfl _ _ rfl w.heap.size _ _ ys rfl H.out am ys.length cm rfl (Y.out.below (hw) (Nat.le_refl _)) h0 ?c1 (hw).size ?_)
              case c1 => (try simp only [List.length_append]); omega
              intro v0 w1 hO0 hb0
              have H0 := Lib.hid hO0
              clear hO0
              have B0 : Below w.heap.size w w1 := (hw).trans hb0
              go_wp2_with (at_builtin; refine wpList_app rfl _ _ rfl w.heap.size _ _ [x] rfl (H0.out.below ((Below.refl _ _).alloc (Nat.le_refl _) (.cells #[.int .i64 x] 3)) (Nat.le_refl _)) (some ⟨w1.heap.size, 0, none⟩) 1 1 rfl (irow1 _ _ _) (fun h => by cases h) ?c1 ?c2 ?_)
              case c1 => (try simp only [List.length_append]); omega
              case c2 => have := (B0).size; simp; omega
              intro v1 w2 hO1 hb1
              have H1 := Lib.hid hO1
              clear hO1
              have B1 : Below w.heap.size w w2 := ((B0).alloc (B0).size _).trans hb1
              go_wp2_with fail
              go_roundg (gk - 1)
              case measure => omega
              case rel =>
                go_light
                exact ⟨j + 1, by omega, by omega, by go_num, B1, by rw [ins_next ys a HX.out, if_pos h1h.out, if_neg (by have := h1h.out; omega), List.append_nil]; simpa [List.append_assoc] using H1.out⟩
            · go_wp2_with (at_builtin; refine wpList_app rfl _ _ rfl w.heap.size _ _ ys rfl H.out am ys.length cm rfl (Y.out.below (hw) (Nat.le_refl _)) h0 ?c1 (hw).size ?_)
              case c1 => (try simp only [List.length_append]); omega
              intro v0 w1 hO0 hb0
              have H0 := Lib.hid hO0
              clear hO0
              have B0 : Below w.heap.size w w1 := (hw).trans hb0
              go_wp2_with (at_builtin; refine wpList_app rfl _ _ rfl w.heap.size _ _ [x] rfl (H0.out.below ((Below.refl _ _).alloc (Nat.le_refl _) (.cells #[.int .i64 x] 3)) (Nat.le_refl _)) (some ⟨w1.heap.size, 0, none⟩) 1 1 rfl (irow1 _ _ _) (fun h => by cases h) ?c1 ?c2 ?_)
              case c1 => (try simp only [List.length_append]); omega
              case c2 => have := (B0).size; simp; omega
              intro v1 w2 hO1 hb1
              have H1 := Lib.hid hO1
              clear hO1
              have B1 : Below w.heap.size w w2 := ((B0).alloc (B0).size _).trans hb1
              go_wp2_with fail
              go_roundg (gk - 1)
              case measure => omega
              case rel =>
                go_light
                exact ⟨j + 1, by omega, by omega, by go_num, B1, by rw [ins_next ys a HX.out, if_pos h1h.out, if_neg (by have := h1h.out; omega), List.append_nil]; simpa [List.append_assoc] using H1.out⟩
          · have e1 : ((j : Int) + 1 == a) = false := by simpa using h1
            by_cases h2 : (xs.length : Int) < a
            · cases e3 : ((j : Int) + 1 == (xs.length : Int))
              · have h3 : ¬ ((j : Int) + 1 = (xs.length : Int)) := by simpa using e3
                go_wp2_with (at_builtin; refine wpList_app rfl _ _ rfl w.heap.size _ _ [x] rfl (H.out.below ((Below.refl _ _).alloc (Nat.le_refl _) (.cells #[.int .i64 x] 3)) (Nat.le_refl _)) (some ⟨wr.heap.size, 0, none⟩) 1 1 rfl (irow1 _ _ _) (fun h => by cases h) ?c1 ?c2 ?_)
                case c1 => (try simp only [List.length_append]); omega
                case c2 => have := (hw).size; simp; omega
                intro v0 w1 hO0 hb0
                have H0 := Lib.hid hO0
                clear hO0
                have B0 : Below w.heap.size w w1 := ((hw).alloc (hw).size _).trans hb0
                go_wp2_with fail
                go_roundg (gk - 1)
                case measure => omega
                case rel =>
                  go_light
                  exact ⟨j + 1, by omega, by omega, by go_num, B0, by rw [ins_next ys a HX.out, if_neg h1, if_neg (by omega), List.append_nil, List.append_nil]; simpa [List.append_assoc] using H0.out⟩
              · have h3 := Lib.hid (show (j : Int) + 1 = (xs.length : Int) by simpa using e3)
                go_wp2_with (at_builtin; refine wpList_app rfl _ _ rfl w.heap.size _ _ [x] rfl (H.out.below ((Below.refl _ _).alloc (Nat.le_refl _) (.cells #[.int .i64 x] 3)) (Nat.le_refl _)) (some ⟨wr.heap.size, 0, none⟩) 1 1 rfl (irow1 _ _ _) (fun h => by cases h) ?c1 ?c2 ?_)
                case c1 => (try simp only [List.length_append, List.length_cons, List.length_nil]); omega
                case c2 => have := (hw).size; simp; omega
                intro v0 w1 hO0 hb0
                have H0 := Lib.hid hO0
                clear hO0
                have B0 : Below w.heap.size w w1 := ((hw).alloc (hw).size _).trans hb0
                go_wp2_with (at_builtin; refine wpList_app rfl _ _ rfl w.heap.size _ _ ys rfl H0.out am ys.length cm rfl (Y.out.below (B0) (Nat.le_refl _)) h0 ?c1 (B0).size ?_)
                case c1 => (try simp only [List.length_append, List.length_cons, List.length_nil]); omega
                intro v1 w2 hO1 hb1
                have H1 := Lib.hid hO1
                clear hO1
                have B1 : Below w.heap.size w w2 := (B0).trans hb1
                go_wp2_with fail
                go_roundg (gk - 1)
                case measure => omega
                case rel =>
                  go_light
                  exact ⟨j + 1, by omega, by omega, by go_num, B1, by rw [ins_next ys a HX.out, if_neg h1, if_pos (by have := h3.out; omega), List.append_nil]; simpa [List.append_assoc] using H1.out⟩
            · have h2' : a ≤ (xs.length : Int) := by omega
              cases e3 : ((j : Int) + 1 == (xs.length : Int))
              · go_wp2_with (at_builtin; refine wpList_app rfl _ _ rfl w.heap.size _ _ [x] rfl (H.out.below ((Below.refl _ _).alloc (Nat.le_refl _) (.cells #[.int .i64 x] 3)) (Nat.le_refl _)) (some ⟨wr.heap.size, 0, none⟩) 1 1 rfl (irow1 _ _ _) (fun h => by cases h) ?c1 ?c2 ?_)
                case c1 => (try simp only [List.length_append]); omega
                case c2 => have := (hw).size; simp; omega
                intro v0 w1 hO0 hb0
                have H0 := Lib.hid hO0
                clear hO0
                have B0 : Below w.heap.size w w1 := ((hw).alloc (hw).size _).trans hb0
                go_wp2_with fail
                go_roundg (gk - 1)
                case measure => omega
                case rel =>
                  go_light
                  exact ⟨j + 1, by omega, by omega, by go_num, B0, by rw [ins_next ys a HX.out, if_neg h1, if_neg (by omega), List.append_nil, List.append_nil]; simpa [List.append_assoc] using H0.out⟩
              · go_wp2_with (at_builtin; refine wpList_app rfl _ _ rfl w.heap.size _ _ [x] rfl (H.out.below ((Below.refl _ _).alloc (Nat.le_refl _) (.cells #[.int .i64 x] 3)) (Nat.le_refl _)) (some ⟨wr.heap.size, 0, none⟩) 1 1 rfl (irow1 _ _ _) (fun h => by cases h) ?c1 ?c2 ?_)
                case c1 => (try simp only [List.length_append]); omega
                case c2 => have := (hw).size; simp; omega
                intro v0 w1 hO0 hb0
                have H0 := Lib.hid hO0
                clear hO0
                have B0 : Below w.heap.size w w1 := ((hw).alloc (hw).size _).trans hb0
                go_wp2_with fail
                go_roundg (gk - 1)
                case measure => omega
                case rel =>
                  go_light
                  exact ⟨j + 1, by omega, by omega, by go_num, B0, by rw [ins_next ys a HX.out, if_neg h1, if_neg (by omega), List.append_nil, List.append_nil]; simpa [List.append_assoc] using H0.out⟩
        · have hfull : j = xs.length := by omega
          have HF := Lib.hid (show insF xs ys a j = putF xs ys (plF xs.length a) by rw [hfull, ins_all])
          have i1 : (xs.length : Int) < (j : Int) + 1 := by omega
          clear hfull
          go_wp2_with fail
          go_light
          go_ret
          exact ⟨u11, rfl, by rw [← HF.out]; exact H.out, hw⟩
end Go.Proofs.Ytpnlhkpibgngbaa

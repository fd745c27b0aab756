/- Places and Distinct, and the closures that they are handed: what they answer. -/
import Derived.Test.YtpnlhkpibgngbaaStE
import Derived.Test.YtpnlhkpibgngbaaSqE
set_option linter.unusedSimpArgs false
set_option linter.unusedVariables false
namespace Go.Proofs.Ytpnlhkpibgngbaa
open Go.RowKit Go.Sort Go.Proofs

set_option maxRecDepth 100000 in
theorem is25 (pn : Nat) (n x : Int) (W : World) (h : W.cell? ⟨pn, 0, none⟩ = some (.int .i64 n)) (h1 : 1 ≤ n) (h7 : n ≤ 7) :
    Calls Try.prog 25 #[.int .i64 x, .pointer (some ⟨pn, 0, none⟩)] W fun e w' => e = .returned (.bool (x.tmod n == 0)) ∧ Below W.heap.size W w' := by
  have hn : n ≠ 0 := by omega
  have hn2 : n ≠ -1 := by omega
  go_enter Try.func25, Try.ntmps25
  go_wp2
  go_ret
  exact ⟨rfl, Below.refl _ _⟩


set_option maxRecDepth 100000 in
theorem same27 (pn : Nat) (n x y : Int) (W : World) (h : W.cell? ⟨pn, 0, none⟩ = some (.int .i64 n)) (h1 : 1 ≤ n) (h7 : n ≤ 7) :
    Calls Try.prog 27 #[.int .i64 x, .int .i64 y, .pointer (some ⟨pn, 0, none⟩)] W fun e w' => e = .returned (.bool (x.tmod n == y.tmod n)) ∧ Below W.heap.size W w' := by
  have hn : n ≠ 0 := by omega
  have hn2 : n ≠ -1 := by omega
  go_enter Try.func27, Try.ntmps27
  go_wp2_with fail
  go_quiet (fail)
  go_wp2
  go_ret
  exact ⟨rfl, below_drewN (Below.refl _ _) nq⟩

set_option maxRecDepth 100000 in
theorem clo52_27 (p3 p7 pn : Nat) (n x t : Int) (W : World) (h : W.cell? ⟨pn, 0, none⟩ = some (.int .i64 n)) (h1 : 1 ≤ n) (h7 : n ≤ 7) (h3 : W.cell? ⟨p3, 0, none⟩ = some (.func (.func 27) #[] #[.pointer (some ⟨pn, 0, none⟩)])) (ht : W.cell? ⟨p7, 0, none⟩ = some (.int .i64 t)) :
    Calls Try.prog 52 #[.int .i64 x, .pointer (some ⟨p3, 0, none⟩), .pointer (some ⟨p7, 0, none⟩)] W fun e w' => e = .returned (.bool (x.tmod n == t.tmod n)) ∧ Below W.heap.size W w' := by
  have C := Lib.hid (same27 pn n x t W h h1 h7)
  go_enter Try.func52, Try.ntmps52
  go_wp2_with fail
  refine C.out.mono ?_
  rintro e w1 ⟨rfl, hb⟩
  go_wp2_with fail
  go_light
  go_ret
  exact ⟨rfl, hb⟩

set_option maxRecDepth 100000 in
set_option maxHeartbeats 1000000 in
theorem has_27 (a : Option Addr) (c p3 p7 pn : Nat) (xs : List Int) (n t : Int) (w : World) (hI : IRow w a xs.length xs) (hx : xs.length ≤ 1000) (ln : pn < w.heap.size) (l3 : p3 < w.heap.size) (l7 : p7 < w.heap.size) (h : w.cell? ⟨pn, 0, none⟩ = some (.int .i64 n)) (h1 : 1 ≤ n) (h7 : n ≤ 7) (h3 : w.cell? ⟨p3, 0, none⟩ = some (.func (.func 27) #[] #[.pointer (some ⟨pn, 0, none⟩)])) (ht : w.cell? ⟨p7, 0, none⟩ = some (.int .i64 t)) :
    Calls Try.prog 51 #[.slice a xs.length c, .func (.func 52) #[] #[.pointer (some ⟨p3, 0, none⟩), .pointer (some ⟨p7, 0, none⟩)]] w fun e w' => e = .returned (.bool (xs.any fun x => x.tmod n == t.tmod n)) ∧ Below w.heap.size w w' := by
  have A := Lib.hid hI
  have C : Hid (∀ W, Below w.heap.size w W → ∀ x : Int, Calls Try.prog 52 #[.int .i64 x, .pointer (some ⟨p3, 0, none⟩), .pointer (some ⟨p7, 0, none⟩)] W fun e w' => e = .returned (.bool (x.tmod n == t.tmod n)) ∧ Below W.heap.size W w') :=
    fun W hb x => clo52_27 p3 p7 pn n x t W (by rw [(bcell hb).1 _ _ ln]; exact h) h1 h7 (by rw [(bcell hb).1 _ _ l3]; exact h3) (by rw [(bcell hb).1 _ _ l7]; exact ht)
  clear hI h h3 ht
  have IDX : Hid (Calls Try.prog 61 #[.slice a xs.length c, .func (.func 52) #[] #[.pointer (some ⟨p3, 0, none⟩), .pointer (some ⟨p7, 0, none⟩)]] w fun e w' => ∃ r : Int, e = .returned (.int .i64 r) ∧ decide (0 ≤ r) = (xs.any fun x => x.tmod n == t.tmod n) ∧ Below w.heap.size w w') := by
    show Calls _ _ _ _ _
    go_enter Try.func61, Try.ntmps61
    go_wp2_with fail
    go_loopg [8] (xs.length + 1) (fun m jj wr => ∃ j : Nat, j ≤ xs.length ∧ m + j = xs.length + 1 ∧ jj = .int .i64 j ∧ Below w.heap.size w wr ∧ Hid ((xs.take j).any (fun x => x.tmod n == t.tmod n) = false))
    case atStart => exact ⟨0, Nat.zero_le _, by omega, rfl, Below.refl _ _, rfl⟩
    case round =>
      obtain ⟨j, hj, hmj, rfl, hw, HA⟩ := hrel
      by_cases hlt : j < xs.length
      · obtain ⟨x, hx'⟩ : ∃ x, xs[j]? = some x := ⟨xs[j], by simp [hlt]⟩
        obtain ⟨b1, q1, rfl, lb1, hx1⟩ := A.out.2.2 (by omega)
        have y1 := hx1 j x hx'
        have z1 := hw.cell (p := ⟨b1, q1 + j, none⟩) lb1
        rw [y1] at z1
        have HX := Lib.hid hx'
        have CX := Lib.hid (C.out wr hw x)
        clear hx1 hx' y1
        have i0 : (0 : Int) ≤ (j : Int) := Int.natCast_nonneg _
        have i1 : (j : Int) < (xs.length : Int) := by omega
        go_wp2_with fail
        refine CX.out.mono ?_
        rintro e w1 ⟨rfl, hb1⟩
        cases hk : (x.tmod n == t.tmod n)
        · go_wp2_with fail
          go_roundg (gk - 1)
          case measure => omega
          case rel =>
            go_light
            exact ⟨j + 1, by omega, by omega, by go_num, hw.trans (hb1.mono hw.size), (show Hid _ from by show _ = _; rw [List.take_add_one, HX.out, List.any_append, HA.out]; simpa using hk)⟩
        · go_wp2_with fail
          go_light
          go_ret
          refine ⟨j, rfl, ?_, hw.trans (hb1.mono hw.size)⟩
          rw [decide_eq_true (by omega)]
          symm
          rw [List.any_eq_true]
          exact ⟨x, List.mem_of_getElem? HX.out, hk⟩
      · have i1 : ¬ (j : Int) < (xs.length : Int) := by omega
        go_wp2_with fail
        go_light
        go_ret
        refine ⟨-1, rfl, ?_, hw⟩
        have := HA.out
        rw [List.take_of_length_le (by omega)] at this
        rw [this]; rfl
  go_enter Try.func51, Try.ntmps51
  go_wp2_with fail
  refine IDX.out.mono ?_
  rintro e w1 ⟨r, rfl, hr, hb⟩
  have HR := Lib.hid hr
  clear hr
  go_wp2_with fail
  go_light
  go_ret
  exact ⟨by rw [← HR.out]; rfl, hb⟩


set_option maxRecDepth 100000 in
theorem same33 (pn : Nat) (n x y : Int) (W : World) (h : W.cell? ⟨pn, 0, none⟩ = some (.int .i64 n)) (h1 : 1 ≤ n) (h7 : n ≤ 7) :
    Calls Try.prog 33 #[.int .i64 x, .int .i64 y, .pointer (some ⟨pn, 0, none⟩)] W fun e w' => e = .returned (.bool (x.tmod n == y.tmod n)) ∧ Below W.heap.size W w' := by
  have hn : n ≠ 0 := by omega
  have hn2 : n ≠ -1 := by omega
  go_enter Try.func33, Try.ntmps33
  go_wp2_with fail
  go_quiet (fail)
  go_wp2
  go_ret
  exact ⟨rfl, below_drewN (Below.refl _ _) nq⟩

set_option maxRecDepth 100000 in
theorem clo52_33 (p3 p7 pn : Nat) (n x t : Int) (W : World) (h : W.cell? ⟨pn, 0, none⟩ = some (.int .i64 n)) (h1 : 1 ≤ n) (h7 : n ≤ 7) (h3 : W.cell? ⟨p3, 0, none⟩ = some (.func (.func 33) #[] #[.pointer (some ⟨pn, 0, none⟩)])) (ht : W.cell? ⟨p7, 0, none⟩ = some (.int .i64 t)) :
    Calls Try.prog 52 #[.int .i64 x, .pointer (some ⟨p3, 0, none⟩), .pointer (some ⟨p7, 0, none⟩)] W fun e w' => e = .returned (.bool (x.tmod n == t.tmod n)) ∧ Below W.heap.size W w' := by
  have C := Lib.hid (same33 pn n x t W h h1 h7)
  go_enter Try.func52, Try.ntmps52
  go_wp2_with fail
  refine C.out.mono ?_
  rintro e w1 ⟨rfl, hb⟩
  go_wp2_with fail
  go_light
  go_ret
  exact ⟨rfl, hb⟩

set_option maxRecDepth 100000 in
set_option maxHeartbeats 1000000 in
theorem has_33 (a : Option Addr) (c p3 p7 pn : Nat) (xs : List Int) (n t : Int) (w : World) (hI : IRow w a xs.length xs) (hx : xs.length ≤ 1000) (ln : pn < w.heap.size) (l3 : p3 < w.heap.size) (l7 : p7 < w.heap.size) (h : w.cell? ⟨pn, 0, none⟩ = some (.int .i64 n)) (h1 : 1 ≤ n) (h7 : n ≤ 7) (h3 : w.cell? ⟨p3, 0, none⟩ = some (.func (.func 33) #[] #[.pointer (some ⟨pn, 0, none⟩)])) (ht : w.cell? ⟨p7, 0, none⟩ = some (.int .i64 t)) :
    Calls Try.prog 51 #[.slice a xs.length c, .func (.func 52) #[] #[.pointer (some ⟨p3, 0, none⟩), .pointer (some ⟨p7, 0, none⟩)]] w fun e w' => e = .returned (.bool (xs.any fun x => x.tmod n == t.tmod n)) ∧ Below w.heap.size w w' := by
  have A := Lib.hid hI
  have C : Hid (∀ W, Below w.heap.size w W → ∀ x : Int, Calls Try.prog 52 #[.int .i64 x, .pointer (some ⟨p3, 0, none⟩), .pointer (some ⟨p7, 0, none⟩)] W fun e w' => e = .returned (.bool (x.tmod n == t.tmod n)) ∧ Below W.heap.size W w') :=
    fun W hb x => clo52_33 p3 p7 pn n x t W (by rw [(bcell hb).1 _ _ ln]; exact h) h1 h7 (by rw [(bcell hb).1 _ _ l3]; exact h3) (by rw [(bcell hb).1 _ _ l7]; exact ht)
  clear hI h h3 ht
  have IDX : Hid (Calls Try.prog 61 #[.slice a xs.length c, .func (.func 52) #[] #[.pointer (some ⟨p3, 0, none⟩), .pointer (some ⟨p7, 0, none⟩)]] w fun e w' => ∃ r : Int, e = .returned (.int .i64 r) ∧ decide (0 ≤ r) = (xs.any fun x => x.tmod n == t.tmod n) ∧ Below w.heap.size w w') := by
    show Calls _ _ _ _ _
    go_enter Try.func61, Try.ntmps61
    go_wp2_with fail
    go_loopg [8] (xs.length + 1) (fun m jj wr => ∃ j : Nat, j ≤ xs.length ∧ m + j = xs.length + 1 ∧ jj = .int .i64 j ∧ Below w.heap.size w wr ∧ Hid ((xs.take j).any (fun x => x.tmod n == t.tmod n) = false))
    case atStart => exact ⟨0, Nat.zero_le _, by omega, rfl, Below.refl _ _, rfl⟩
    case round =>
      obtain ⟨j, hj, hmj, rfl, hw, HA⟩ := hrel
      by_cases hlt : j < xs.length
      · obtain ⟨x, hx'⟩ : ∃ x, xs[j]? = some x := ⟨xs[j], by simp [hlt]⟩
        obtain ⟨b1, q1, rfl, lb1, hx1⟩ := A.out.2.2 (by omega)
        have y1 := hx1 j x hx'
        have z1 := hw.cell (p := ⟨b1, q1 + j, none⟩) lb1
        rw [y1] at z1
        have HX := Lib.hid hx'
        have CX := Lib.hid (C.out wr hw x)
        clear hx1 hx' y1
        have i0 : (0 : Int) ≤ (j : Int) := Int.natCast_nonneg _
        have i1 : (j : Int) < (xs.length : Int) := by omega
        go_wp2_with fail
        refine CX.out.mono ?_
        rintro e w1 ⟨rfl, hb1⟩
        cases hk : (x.tmod n == t.tmod n)
        · go_wp2_with fail
          go_roundg (gk - 1)
          case measure => omega
          case rel =>
            go_light
            exact ⟨j + 1, by omega, by omega, by go_num, hw.trans (hb1.mono hw.size), (show Hid _ from by show _ = _; rw [List.take_add_one, HX.out, List.any_append, HA.out]; simpa using hk)⟩
        · go_wp2_with fail
          go_light
          go_ret
          refine ⟨j, rfl, ?_, hw.trans (hb1.mono hw.size)⟩
          rw [decide_eq_true (by omega)]
          symm
          rw [List.any_eq_true]
          exact ⟨x, List.mem_of_getElem? HX.out, hk⟩
      · have i1 : ¬ (j : Int) < (xs.length : Int) := by omega
        go_wp2_with fail
        go_light
        go_ret
        refine ⟨-1, rfl, ?_, hw⟩
        have := HA.out
        rw [List.take_of_length_le (by omega)] at this
        rw [this]; rfl
  go_enter Try.func51, Try.ntmps51
  go_wp2_with fail
  refine IDX.out.mono ?_
  rintro e w1 ⟨r, rfl, hr, hb⟩
  have HR := Lib.hid hr
  clear hr
  go_wp2_with fail
  go_light
  go_ret
  exact ⟨by rw [← HR.out]; rfl, hb⟩


set_option maxRecDepth 100000 in
theorem same34 (pn : Nat) (n x y : Int) (W : World) (h : W.cell? ⟨pn, 0, none⟩ = some (.int .i64 n)) (h1 : 1 ≤ n) (h7 : n ≤ 7) :
    Calls Try.prog 34 #[.int .i64 x, .int .i64 y, .pointer (some ⟨pn, 0, none⟩)] W fun e w' => e = .returned (.bool (x.tmod n == y.tmod n)) ∧ Below W.heap.size W w' := by
  have hn : n ≠ 0 := by omega
  have hn2 : n ≠ -1 := by omega
  go_enter Try.func34, Try.ntmps34
  go_wp2_with fail
  go_quiet (fail)
  go_wp2
  go_ret
  exact ⟨rfl, below_drewN (Below.refl _ _) nq⟩

set_option maxRecDepth 100000 in
theorem clo52_34 (p3 p7 pn : Nat) (n x t : Int) (W : World) (h : W.cell? ⟨pn, 0, none⟩ = some (.int .i64 n)) (h1 : 1 ≤ n) (h7 : n ≤ 7) (h3 : W.cell? ⟨p3, 0, none⟩ = some (.func (.func 34) #[] #[.pointer (some ⟨pn, 0, none⟩)])) (ht : W.cell? ⟨p7, 0, none⟩ = some (.int .i64 t)) :
    Calls Try.prog 52 #[.int .i64 x, .pointer (some ⟨p3, 0, none⟩), .pointer (some ⟨p7, 0, none⟩)] W fun e w' => e = .returned (.bool (x.tmod n == t.tmod n)) ∧ Below W.heap.size W w' := by
  have C := Lib.hid (same34 pn n x t W h h1 h7)
  go_enter Try.func52, Try.ntmps52
  go_wp2_with fail
  refine C.out.mono ?_
  rintro e w1 ⟨rfl, hb⟩
  go_wp2_with fail
  go_light
  go_ret
  exact ⟨rfl, hb⟩

set_option maxRecDepth 100000 in
set_option maxHeartbeats 1000000 in
theorem has_34 (a : Option Addr) (c p3 p7 pn : Nat) (xs : List Int) (n t : Int) (w : World) (hI : IRow w a xs.length xs) (hx : xs.length ≤ 1000) (ln : pn < w.heap.size) (l3 : p3 < w.heap.size) (l7 : p7 < w.heap.size) (h : w.cell? ⟨pn, 0, none⟩ = some (.int .i64 n)) (h1 : 1 ≤ n) (h7 : n ≤ 7) (h3 : w.cell? ⟨p3, 0, none⟩ = some (.func (.func 34) #[] #[.pointer (some ⟨pn, 0, none⟩)])) (ht : w.cell? ⟨p7, 0, none⟩ = some (.int .i64 t)) :
    Calls Try.prog 51 #[.slice a xs.length c, .func (.func 52) #[] #[.pointer (some ⟨p3, 0, none⟩), .pointer (some ⟨p7, 0, none⟩)]] w fun e w' => e = .returned (.bool (xs.any fun x => x.tmod n == t.tmod n)) ∧ Below w.heap.size w w' := by
  have A := Lib.hid hI
  have C : Hid (∀ W, Below w.heap.size w W → ∀ x : Int, Calls Try.prog 52 #[.int .i64 x, .pointer (some ⟨p3, 0, none⟩), .pointer (some ⟨p7, 0, none⟩)] W fun e w' => e = .returned (.bool (x.tmod n == t.tmod n)) ∧ Below W.heap.size W w') :=
    fun W hb x => clo52_34 p3 p7 pn n x t W (by rw [(bcell hb).1 _ _ ln]; exact h) h1 h7 (by rw [(bcell hb).1 _ _ l3]; exact h3) (by rw [(bcell hb).1 _ _ l7]; exact ht)
  clear hI h h3 ht
  have IDX : Hid (Calls Try.prog 61 #[.slice a xs.length c, .func (.func 52) #[] #[.pointer (some ⟨p3, 0, none⟩), .pointer (some ⟨p7, 0, none⟩)]] w fun e w' => ∃ r : Int, e = .returned (.int .i64 r) ∧ decide (0 ≤ r) = (xs.any fun x => x.tmod n == t.tmod n) ∧ Below w.heap.size w w') := by
    show Calls _ _ _ _ _
    go_enter Try.func61, Try.ntmps61
    go_wp2_with fail
    go_loopg [8] (xs.length + 1) (fun m jj wr => ∃ j : Nat, j ≤ xs.length ∧ m + j = xs.length + 1 ∧ jj = .int .i64 j ∧ Below w.heap.size w wr ∧ Hid ((xs.take j).any (fun x => x.tmod n == t.tmod n) = false))
    case atStart => exact ⟨0, Nat.zero_le _, by omega, rfl, Below.refl _ _, rfl⟩
    case round =>
      obtain ⟨j, hj, hmj, rfl, hw, HA⟩ := hrel
      by_cases hlt : j < xs.length
      · obtain ⟨x, hx'⟩ : ∃ x, xs[j]? = some x := ⟨xs[j], by simp [hlt]⟩
        obtain ⟨b1, q1, rfl, lb1, hx1⟩ := A.out.2.2 (by omega)
        have y1 := hx1 j x hx'
        have z1 := hw.cell (p := ⟨b1, q1 + j, none⟩) lb1
        rw [y1] at z1
        have HX := Lib.hid hx'
        have CX := Lib.hid (C.out wr hw x)
        clear hx1 hx' y1
        have i0 : (0 : Int) ≤ (j : Int) := Int.natCast_nonneg _
        have i1 : (j : Int) < (xs.length : Int) := by omega
        go_wp2_with fail
        refine CX.out.mono ?_
        rintro e w1 ⟨rfl, hb1⟩
        cases hk : (x.tmod n == t.tmod n)
        · go_wp2_with fail
          go_roundg (gk - 1)
          case measure => omega
          case rel =>
            go_light
            exact ⟨j + 1, by omega, by omega, by go_num, hw.trans (hb1.mono hw.size), (show Hid _ from by show _ = _; rw [List.take_add_one, HX.out, List.any_append, HA.out]; simpa using hk)⟩
        · go_wp2_with fail
          go_light
          go_ret
          refine ⟨j, rfl, ?_, hw.trans (hb1.mono hw.size)⟩
          rw [decide_eq_true (by omega)]
          symm
          rw [List.any_eq_true]
          exact ⟨x, List.mem_of_getElem? HX.out, hk⟩
      · have i1 : ¬ (j : Int) < (xs.length : Int) := by omega
        go_wp2_with fail
        go_light
        go_ret
        refine ⟨-1, rfl, ?_, hw⟩
        have := HA.out
        rw [List.take_of_length_le (by omega)] at this
        rw [this]; rfl
  go_enter Try.func51, Try.ntmps51
  go_wp2_with fail
  refine IDX.out.mono ?_
  rintro e w1 ⟨r, rfl, hr, hb⟩
  have HR := Lib.hid hr
  clear hr
  go_wp2_with fail
  go_light
  go_ret
  exact ⟨by rw [← HR.out]; rfl, hb⟩


theorem irow1S (w : World) (x : Int) (t : TypeId) : IRow (w.alloc (.cells #[.int .i64 x] t)) (some ⟨w.heap.size, 0, none⟩) 1 [x] := IRow.new w [x] t (by simp)
/-- The first of those with one rest. -/
def distS (n : Int) (out : List Int) (t : Int) : List Int := if out.any (fun x => x.tmod n == t.tmod n) then out else out ++ [t]
def distF (n : Int) (xs : List Int) : List Int := xs.foldl (distS n) []
theorem distF_next {n : Int} {xs : List Int} {j : Nat} {x : Int} (h : xs[j]? = some x) : distF n (xs.take (j + 1)) = distS n (distF n (xs.take j)) x := by
  rw [take_next h]
  unfold distF
  rw [List.foldl_append]
  rfl
theorem distF_len (n : Int) (xs : List Int) : ∀ out : List Int, (xs.foldl (distS n) out).length ≤ out.length + xs.length := by
  induction xs with
  | nil => intro out; simp
  | cons x xs ih =>
    intro out
    have h1 := ih (distS n out x)
    have h2 : (distS n out x).length ≤ out.length + 1 := by unfold distS; split <;> simp
    simp only [List.foldl_cons, List.length_cons]
    omega

set_option maxRecDepth 100000 in
set_option maxHeartbeats 2000000 in
theorem dist_27 (a : Option Addr) (c pn : Nat) (xs : List Int) (n : Int) (w : World) (h : IRow w a xs.length xs) (hx : xs.length ≤ 1000) (hn : w.cell? ⟨pn, 0, none⟩ = some (.int .i64 n)) (ln : pn < w.heap.size) (h1 : 1 ≤ n) (h7 : n ≤ 7) :
    Calls Try.prog 26 #[.slice a xs.length c, .func (.func 27) #[] #[.pointer (some ⟨pn, 0, none⟩)]] w (Own (distF n xs) w) := by
  have A := Lib.hid h
  have HN := Lib.hid hn
  clear h hn
  go_enter Try.func26, Try.ntmps26
  go_wp2_with fail
  have b0 : Below w.heap.size w (w.alloc (Obj.cells #[Value.func (Fn.func 27) #[] #[Value.pointer (some ⟨pn, 0, none⟩)]] 48)) := (Below.refl _ _).alloc (Nat.le_refl _) _
  have c3 : Hid ((w.alloc (Obj.cells #[Value.func (Fn.func 27) #[] #[Value.pointer (some ⟨pn, 0, none⟩)]] 48)).cell? ⟨w.heap.size, 0, none⟩ = some (.func (.func 27) #[] #[.pointer (some ⟨pn, 0, none⟩)])) := by show _ = _; simp [go_sem]
  have s0 : (w.alloc (Obj.cells #[Value.func (Fn.func 27) #[] #[Value.pointer (some ⟨pn, 0, none⟩)]] 48)).heap.size = w.heap.size + 1 := by simp
  generalize w.alloc (Obj.cells #[Value.func (Fn.func 27) #[] #[Value.pointer (some ⟨pn, 0, none⟩)]] 48) = w0 at *
  have A0 := Lib.hid (A.out.below b0 (Nat.le_refl _))
  have N0 : Hid (w0.cell? ⟨pn, 0, none⟩ = some (.int .i64 n)) := by show _ = _; rw [(bcell b0).1 _ _ ln]; exact HN.out
  go_loopg [5, 10] (xs.length + 1) (fun m v jj wr => ∃ j : Nat, j ≤ xs.length ∧ m + j = xs.length + 1 ∧ jj = .int .i64 j ∧ Below w0.heap.size w0 wr ∧ ORow wr w0.heap.size v (distF n (xs.take j)))
  case atStart => exact ⟨0, Nat.zero_le _, by omega, rfl, Below.refl _ _, ORow.nil _ _⟩
  case round =>
    obtain ⟨j, hj, hmj, rfl, hw, hown⟩ := hrel
    have H := Lib.hid hown
    clear hown
    have hlen : (distF n (xs.take j)).length ≤ xs.length := by have h1 := distF_len n (xs.take j) []; have h2 := List.length_take_le j xs; unfold distF; simp at h1; omega
    by_cases hlt : j < xs.length
    · obtain ⟨x, hx'⟩ : ∃ x, xs[j]? = some x := ⟨xs[j], by simp [hlt]⟩
      obtain ⟨b1, q1, rfl, lb1, hx1⟩ := A0.out.2.2 (by omega)
      have y1 := hx1 j x hx'
      have z1 := hw.cell (p := ⟨b1, q1 + j, none⟩) lb1
      rw [y1] at z1
      have HX := Lib.hid hx'
      clear hx1 hx' y1
      have i0 : (0 : Int) ≤ (j : Int) := Int.natCast_nonneg _
      have i1 : (j : Int) < (xs.length : Int) := by omega
      obtain ⟨ao, co, hv, hIo, hco⟩ := H.out.irow (by omega)
      subst hv
      have hw1 : Below w0.heap.size w0 (wr.alloc (Obj.cells #[Value.int IntKind.i64 x] 3)) := hw.alloc hw.size _
      have C := Lib.hid (has_27 ao co w.heap.size wr.heap.size pn (distF n (xs.take j)) n x (wr.alloc (Obj.cells #[Value.int IntKind.i64 x] 3)) (hIo.below ((Below.refl _ _).alloc (Nat.le_refl _) _) (Nat.le_refl _)) (by omega)
        (by have := hw1.size; omega) (by have := hw1.size; omega) (by simp) (by rw [(bcell hw1).1 _ _ (by omega)]; exact N0.out) h1 h7 (by rw [(bcell hw1).1 _ _ (by omega)]; exact c3.out) (by simp [go_sem]))
      have J := Lib.hid hIo
      clear hIo
      go_wp2_with fail
      refine C.out.mono ?_
      rintro e w1 ⟨rfl, hb1⟩
      have k1 : Below w0.heap.size w0 w1 := hw1.trans (hb1.mono hw1.size)
      have O1 := Lib.hid ((H.out.below ((Below.refl _ _).alloc (Nat.le_refl _) (.cells #[.int .i64 x] 3)) (Nat.le_refl _)).below hb1 (Nat.le_refl _))
      have cx : w1.cell? ⟨wr.heap.size, 0, none⟩ = some (.int .i64 x) := by rw [(bcell hb1).1 _ _ (by simp)]; simp [go_sem]
      have HE := Lib.hid (distF_next (n := n) HX.out)
      clear H C hb1 hw1
      cases hk : (distF n (xs.take j)).any (fun z => z.tmod n == x.tmod n)
      · go_wp2_with (at_builtin; refine wpList_app rfl _ _ rfl w0.heap.size _ _ [x] rfl (O1.out.below ((Below.refl _ _).alloc (Nat.le_refl _) (.cells #[.int .i64 x] 3)) (Nat.le_refl _)) (some ⟨w1.heap.size, 0, none⟩) 1 1 rfl (irow1S _ _ _) (fun h => by cases h) ?c1 ?c2 ?_)
        case c1 => omega
        case c2 => have := k1.size; simp; omega
        intro v' w2 hO2 hb2
        have O2 := Lib.hid hO2
        clear hO2
        go_wp2_with fail
        go_roundg (gk - 1)
        case measure => omega
        case rel =>
          go_light
          refine ⟨j + 1, by omega, by omega, by go_num, (k1.alloc k1.size _).trans (hb2.mono (by omega)), ?_⟩
          rw [HE.out, distS, hk]
          exact O2.out.mono (by omega)
      · go_wp2_with fail
        go_roundg (gk - 1)
        case measure => omega
        case rel =>
          go_light
          refine ⟨j + 1, by omega, by omega, by go_num, k1, ?_⟩
          rw [HE.out, distS, hk]
          exact O1.out
    · have hfull : xs.take j = xs := List.take_of_length_le (by omega)
      rw [hfull] at H
      have i1 : ¬ (j : Int) < (xs.length : Int) := by omega
      clear hfull
      go_wp2_with fail
      go_light
      go_ret
      exact ⟨u5, rfl, H.out.mono (by omega), b0.trans (hw.mono (by omega))⟩

set_option maxRecDepth 100000 in
set_option maxHeartbeats 2000000 in
theorem dist_33 (a : Option Addr) (c pn : Nat) (xs : List Int) (n : Int) (w : World) (h : IRow w a xs.length xs) (hx : xs.length ≤ 1000) (hn : w.cell? ⟨pn, 0, none⟩ = some (.int .i64 n)) (ln : pn < w.heap.size) (h1 : 1 ≤ n) (h7 : n ≤ 7) :
    Calls Try.prog 26 #[.slice a xs.length c, .func (.func 33) #[] #[.pointer (some ⟨pn, 0, none⟩)]] w (Own (distF n xs) w) := by
  have A := Lib.hid h
  have HN := Lib.hid hn
  clear h hn
  go_enter Try.func26, Try.ntmps26
  go_wp2_with fail
  have b0 : Below w.heap.size w (w.alloc (Obj.cells #[Value.func (Fn.func 33) #[] #[Value.pointer (some ⟨pn, 0, none⟩)]] 48)) := (Below.refl _ _).alloc (Nat.le_refl _) _
  have c3 : Hid ((w.alloc (Obj.cells #[Value.func (Fn.func 33) #[] #[Value.pointer (some ⟨pn, 0, none⟩)]] 48)).cell? ⟨w.heap.size, 0, none⟩ = some (.func (.func 33) #[] #[.pointer (some ⟨pn, 0, none⟩)])) := by show _ = _; simp [go_sem]
  have s0 : (w.alloc (Obj.cells #[Value.func (Fn.func 33) #[] #[Value.pointer (some ⟨pn, 0, none⟩)]] 48)).heap.size = w.heap.size + 1 := by simp
  generalize w.alloc (Obj.cells #[Value.func (Fn.func 33) #[] #[Value.pointer (some ⟨pn, 0, none⟩)]] 48) = w0 at *
  have A0 := Lib.hid (A.out.below b0 (Nat.le_refl _))
  have N0 : Hid (w0.cell? ⟨pn, 0, none⟩ = some (.int .i64 n)) := by show _ = _; rw [(bcell b0).1 _ _ ln]; exact HN.out
  go_loopg [5, 10] (xs.length + 1) (fun m v jj wr => ∃ j : Nat, j ≤ xs.length ∧ m + j = xs.length + 1 ∧ jj = .int .i64 j ∧ Below w0.heap.size w0 wr ∧ ORow wr w0.heap.size v (distF n (xs.take j)))
  case atStart => exact ⟨0, Nat.zero_le _, by omega, rfl, Below.refl _ _, ORow.nil _ _⟩
  case round =>
    obtain ⟨j, hj, hmj, rfl, hw, hown⟩ := hrel
    have H := Lib.hid hown
    clear hown
    have hlen : (distF n (xs.take j)).length ≤ xs.length := by have h1 := distF_len n (xs.take j) []; have h2 := List.length_take_le j xs; unfold distF; simp at h1; omega
    by_cases hlt : j < xs.length
    · obtain ⟨x, hx'⟩ : ∃ x, xs[j]? = some x := ⟨xs[j], by simp [hlt]⟩
      obtain ⟨b1, q1, rfl, lb1, hx1⟩ := A0.out.2.2 (by omega)
      have y1 := hx1 j x hx'
      have z1 := hw.cell (p := ⟨b1, q1 + j, none⟩) lb1
      rw [y1] at z1
      have HX := Lib.hid hx'
      clear hx1 hx' y1
      have i0 : (0 : Int) ≤ (j : Int) := Int.natCast_nonneg _
      have i1 : (j : Int) < (xs.length : Int) := by omega
      obtain ⟨ao, co, hv, hIo, hco⟩ := H.out.irow (by omega)
      subst hv
      have hw1 : Below w0.heap.size w0 (wr.alloc (Obj.cells #[Value.int IntKind.i64 x] 3)) := hw.alloc hw.size _
      have C := Lib.hid (has_33 ao co w.heap.size wr.heap.size pn (distF n (xs.take j)) n x (wr.alloc (Obj.cells #[Value.int IntKind.i64 x] 3)) (hIo.below ((Below.refl _ _).alloc (Nat.le_refl _) _) (Nat.le_refl _)) (by omega)
        (by have := hw1.size; omega) (by have := hw1.size; omega) (by simp) (by rw [(bcell hw1).1 _ _ (by omega)]; exact N0.out) h1 h7 (by rw [(bcell hw1).1 _ _ (by omega)]; exact c3.out) (by simp [go_sem]))
      have J := Lib.hid hIo
      clear hIo
      go_wp2_with fail
      refine C.out.mono ?_
      rintro e w1 ⟨rfl, hb1⟩
      have k1 : Below w0.heap.size w0 w1 := hw1.trans (hb1.mono hw1.size)
      have O1 := Lib.hid ((H.out.below ((Below.refl _ _).alloc (Nat.le_refl _) (.cells #[.int .i64 x] 3)) (Nat.le_refl _)).below hb1 (Nat.le_refl _))
      have cx : w1.cell? ⟨wr.heap.size, 0, none⟩ = some (.int .i64 x) := by rw [(bcell hb1).1 _ _ (by simp)]; simp [go_sem]
      have HE := Lib.hid (distF_next (n := n) HX.out)
      clear H C hb1 hw1
      cases hk : (distF n (xs.take j)).any (fun z => z.tmod n == x.tmod n)
      · go_wp2_with (at_builtin; refine wpList_app rfl _ _ rfl w0.heap.size _ _ [x] rfl (O1.out.below ((Below.refl _ _).alloc (Nat.le_refl _) (.cells #[.int .i64 x] 3)) (Nat.le_refl _)) (some ⟨w1.heap.size, 0, none⟩) 1 1 rfl (irow1S _ _ _) (fun h => by cases h) ?c1 ?c2 ?_)
        case c1 => omega
        case c2 => have := k1.size; simp; omega
        intro v' w2 hO2 hb2
        have O2 := Lib.hid hO2
        clear hO2
        go_wp2_with fail
        go_roundg (gk - 1)
        case measure => omega
        case rel =>
          go_light
          refine ⟨j + 1, by omega, by omega, by go_num, (k1.alloc k1.size _).trans (hb2.mono (by omega)), ?_⟩
          rw [HE.out, distS, hk]
          exact O2.out.mono (by omega)
      · go_wp2_with fail
        go_roundg (gk - 1)
        case measure => omega
        case rel =>
          go_light
          refine ⟨j + 1, by omega, by omega, by go_num, k1, ?_⟩
          rw [HE.out, distS, hk]
          exact O1.out
    · have hfull : xs.take j = xs := List.take_of_length_le (by omega)
      rw [hfull] at H
      have i1 : ¬ (j : Int) < (xs.length : Int) := by omega
      clear hfull
      go_wp2_with fail
      go_light
      go_ret
      exact ⟨u5, rfl, H.out.mono (by omega), b0.trans (hw.mono (by omega))⟩

set_option maxRecDepth 100000 in
set_option maxHeartbeats 2000000 in
theorem dist_34 (a : Option Addr) (c pn : Nat) (xs : List Int) (n : Int) (w : World) (h : IRow w a xs.length xs) (hx : xs.length ≤ 1000) (hn : w.cell? ⟨pn, 0, none⟩ = some (.int .i64 n)) (ln : pn < w.heap.size) (h1 : 1 ≤ n) (h7 : n ≤ 7) :
    Calls Try.prog 26 #[.slice a xs.length c, .func (.func 34) #[] #[.pointer (some ⟨pn, 0, none⟩)]] w (Own (distF n xs) w) := by
  have A := Lib.hid h
  have HN := Lib.hid hn
  clear h hn
  go_enter Try.func26, Try.ntmps26
  go_wp2_with fail
  have b0 : Below w.heap.size w (w.alloc (Obj.cells #[Value.func (Fn.func 34) #[] #[Value.pointer (some ⟨pn, 0, none⟩)]] 48)) := (Below.refl _ _).alloc (Nat.le_refl _) _
  have c3 : Hid ((w.alloc (Obj.cells #[Value.func (Fn.func 34) #[] #[Value.pointer (some ⟨pn, 0, none⟩)]] 48)).cell? ⟨w.heap.size, 0, none⟩ = some (.func (.func 34) #[] #[.pointer (some ⟨pn, 0, none⟩)])) := by show _ = _; simp [go_sem]
  have s0 : (w.alloc (Obj.cells #[Value.func (Fn.func 34) #[] #[Value.pointer (some ⟨pn, 0, none⟩)]] 48)).heap.size = w.heap.size + 1 := by simp
  generalize w.alloc (Obj.cells #[Value.func (Fn.func 34) #[] #[Value.pointer (some ⟨pn, 0, none⟩)]] 48) = w0 at *
  have A0 := Lib.hid (A.out.below b0 (Nat.le_refl _))
  have N0 : Hid (w0.cell? ⟨pn, 0, none⟩ = some (.int .i64 n)) := by show _ = _; rw [(bcell b0).1 _ _ ln]; exact HN.out
  go_loopg [5, 10] (xs.length + 1) (fun m v jj wr => ∃ j : Nat, j ≤ xs.length ∧ m + j = xs.length + 1 ∧ jj = .int .i64 j ∧ Below w0.heap.size w0 wr ∧ ORow wr w0.heap.size v (distF n (xs.take j)))
  case atStart => exact ⟨0, Nat.zero_le _, by omega, rfl, Below.refl _ _, ORow.nil _ _⟩
  case round =>
    obtain ⟨j, hj, hmj, rfl, hw, hown⟩ := hrel
    have H := Lib.hid hown
    clear hown
    have hlen : (distF n (xs.take j)).length ≤ xs.length := by have h1 := distF_len n (xs.take j) []; have h2 := List.length_take_le j xs; unfold distF; simp at h1; omega
    by_cases hlt : j < xs.length
    · obtain ⟨x, hx'⟩ : ∃ x, xs[j]? = some x := ⟨xs[j], by simp [hlt]⟩
      obtain ⟨b1, q1, rfl, lb1, hx1⟩ := A0.out.2.2 (by omega)
      have y1 := hx1 j x hx'
      have z1 := hw.cell (p := ⟨b1, q1 + j, none⟩) lb1
      rw [y1] at z1
      have HX := Lib.hid hx'
      clear hx1 hx' y1
      have i0 : (0 : Int) ≤ (j : Int) := Int.natCast_nonneg _
      have i1 : (j : Int) < (xs.length : Int) := by omega
      obtain ⟨ao, co, hv, hIo, hco⟩ := H.out.irow (by omega)
      subst hv
      have hw1 : Below w0.heap.size w0 (wr.alloc (Obj.cells #[Value.int IntKind.i64 x] 3)) := hw.alloc hw.size _
      have C := Lib.hid (has_34 ao co w.heap.size wr.heap.size pn (distF n (xs.take j)) n x (wr.alloc (Obj.cells #[Value.int IntKind.i64 x] 3)) (hIo.below ((Below.refl _ _).alloc (Nat.le_refl _) _) (Nat.le_refl _)) (by omega)
        (by have := hw1.size; omega) (by have := hw1.size; omega) (by simp) (by rw [(bcell hw1).1 _ _ (by omega)]; exact N0.out) h1 h7 (by rw [(bcell hw1).1 _ _ (by omega)]; exact c3.out) (by simp [go_sem]))
      have J := Lib.hid hIo
      clear hIo
      go_wp2_with fail
      refine C.out.mono ?_
      rintro e w1 ⟨rfl, hb1⟩
      have k1 : Below w0.heap.size w0 w1 := hw1.trans (hb1.mono hw1.size)
      have O1 := Lib.hid ((H.out.below ((Below.refl _ _).alloc (Nat.le_refl _) (.cells #[.int .i64 x] 3)) (Nat.le_refl _)).below hb1 (Nat.le_refl _))
      have cx : w1.cell? ⟨wr.heap.size, 0, none⟩ = some (.int .i64 x) := by rw [(bcell hb1).1 _ _ (by simp)]; simp [go_sem]
      have HE := Lib.hid (distF_next (n := n) HX.out)
      clear H C hb1 hw1
      cases hk : (distF n (xs.take j)).any (fun z => z.tmod n == x.tmod n)
      · go_wp2_with (at_builtin; refine wpList_app rfl _ _ rfl w0.heap.size _ _ [x] rfl (O1.out.below ((Below.refl _ _).alloc (Nat.le_refl _) (.cells #[.int .i64 x] 3)) (Nat.le_refl _)) (some ⟨w1.heap.size, 0, none⟩) 1 1 rfl (irow1S _ _ _) (fun h => by cases h) ?c1 ?c2 ?_)
        case c1 => omega
        case c2 => have := k1.size; simp; omega
        intro v' w2 hO2 hb2
        have O2 := Lib.hid hO2
        clear hO2
        go_wp2_with fail
        go_roundg (gk - 1)
        case measure => omega
        case rel =>
          go_light
          refine ⟨j + 1, by omega, by omega, by go_num, (k1.alloc k1.size _).trans (hb2.mono (by omega)), ?_⟩
          rw [HE.out, distS, hk]
          exact O2.out.mono (by omega)
      · go_wp2_with fail
        go_roundg (gk - 1)
        case measure => omega
        case rel =>
          go_light
          refine ⟨j + 1, by omega, by omega, by go_num, k1, ?_⟩
          rw [HE.out, distS, hk]
          exact O1.out
    · have hfull : xs.take j = xs := List.take_of_length_le (by omega)
      rw [hfull] at H
      have i1 : ¬ (j : Int) < (xs.length : Int) := by omega
      clear hfull
      go_wp2_with fail
      go_light
      go_ret
      exact ⟨u5, rfl, H.out.mono (by omega), b0.trans (hw.mono (by omega))⟩

/-- The places, from 1 on, of those of the first j of which P holds. -/
def plc (P : Int → Bool) (xs : List Int) (j : Nat) : List Int := ((List.range j).filter fun i => P (xs.getD i 0)).map fun (i : Nat) => (i : Int) + 1
theorem plc_next {P : Int → Bool} {xs : List Int} {j : Nat} {x : Int} (h : xs[j]? = some x) : plc P xs (j + 1) = plc P xs j ++ (if P x then [(j : Int) + 1] else []) := by
  unfold plc
  rw [List.range_succ, List.filter_append, List.map_append]
  congr 1
  have e : xs.getD j 0 = x := by rw [List.getD, h]; rfl
  cases hp : P x
  · simp [List.filter, List.getD, h, hp]
  · simp [List.filter, List.getD, h, hp]
theorem plc_len (P : Int → Bool) (xs : List Int) (j : Nat) : (plc P xs j).length ≤ j := by
  unfold plc
  rw [List.length_map]
  have := List.length_filter_le (fun i => P (xs.getD i 0)) (List.range j)
  simpa using this

set_option maxRecDepth 100000 in
set_option maxHeartbeats 2000000 in
theorem places_25 (P : Int → Bool) (a : Option Addr) (c : Nat) (pn : Nat) (xs : List Int) (w : World) (h : IRow w a xs.length xs) (hx : xs.length ≤ 1000) (hP : ∀ W, Below w.heap.size w W → ∀ x : Int, Calls Try.prog 25 #[.int .i64 x, .pointer (some ⟨pn, 0, none⟩)] W fun e w' => e = .returned (.bool (P x)) ∧ Below W.heap.size W w') :
    Calls Try.prog 24 #[.slice a xs.length c, .func (.func 25) #[] #[.pointer (some ⟨pn, 0, none⟩)]] w (Own (plc P xs xs.length) w) := by
  have A := Lib.hid h
  have C := Lib.hid hP
  clear h hP
  go_enter Try.func24, Try.ntmps24
  go_wp2_with fail
  go_loopg [5, 10] (xs.length + 1) (fun m v jj wr => ∃ j : Nat, j ≤ xs.length ∧ m + j = xs.length + 1 ∧ jj = .int .i64 j ∧ Below w.heap.size w wr ∧ ORow wr w.heap.size v (plc P xs j))
  case atStart => exact ⟨0, Nat.zero_le _, by omega, rfl, Below.refl _ _, ORow.nil _ _⟩
  case round =>
    obtain ⟨j, hj, hmj, rfl, hw, hown⟩ := hrel
    have H := Lib.hid hown
    clear hown
    have hlen := plc_len P xs j
    by_cases hlt : j < xs.length
    · obtain ⟨x, hx'⟩ : ∃ x, xs[j]? = some x := ⟨xs[j], by simp [hlt]⟩
      obtain ⟨b1, q1, rfl, lb1, hx1⟩ := A.out.2.2 (by omega)
      have y1 := hx1 j x hx'
      have z1 := hw.cell (p := ⟨b1, q1 + j, none⟩) lb1
      rw [y1] at z1
      have HX := Lib.hid hx'
      have CX := Lib.hid (C.out wr hw x)
      have HE := Lib.hid (plc_next (P := P) hx')
      clear hx1 hx' y1
      have i0 : (0 : Int) ≤ (j : Int) := Int.natCast_nonneg _
      have i1 : (j : Int) < (xs.length : Int) := by omega
      go_wp2_with fail
      refine CX.out.mono ?_
      rintro e w1 ⟨rfl, hb1⟩
      have k1 : Below w.heap.size w w1 := hw.trans (hb1.mono hw.size)
      have O1 := Lib.hid (H.out.below hb1 (Nat.le_refl _))
      cases hk : P x
      · go_wp2_with fail
        go_roundg (gk - 1)
        case measure => omega
        case rel =>
          go_light
          refine ⟨j + 1, by omega, by omega, by go_num, k1, ?_⟩
          rw [HE.out, hk]
          simpa using O1.out
      · go_wp2_with (at_builtin; refine wpList_app rfl _ _ rfl w.heap.size _ _ [(j : Int) + 1] rfl (O1.out.below ((Below.refl _ _).alloc (Nat.le_refl _) (.cells #[.int .i64 ((j : Int) + 1)] 3)) (Nat.le_refl _)) (some ⟨w1.heap.size, 0, none⟩) 1 1 rfl (irow1S _ _ _) (fun h => by cases h) ?c1 ?c2 ?_)
        case c1 => omega
        case c2 => have := k1.size; simp; omega
        intro v' w2 hO2 hb2
        have O2 := Lib.hid hO2
        clear hO2
        go_wp2_with fail
        go_roundg (gk - 1)
        case measure => omega
        case rel =>
          go_light
          refine ⟨j + 1, by omega, by omega, by go_num, (k1.alloc k1.size _).trans hb2, ?_⟩
          rw [HE.out, hk]
          exact O2.out
    · have i1 : ¬ (j : Int) < (xs.length : Int) := by omega
      have hjn : j = xs.length := by omega
      rw [hjn] at H
      clear hjn
      go_wp2_with fail
      go_light
      go_ret
      exact ⟨u5, rfl, H.out, hw⟩

set_option maxRecDepth 100000 in
set_option maxHeartbeats 2000000 in
theorem places_35 (P : Int → Bool) (a : Option Addr) (c : Nat) (p3 p11 : Nat) (xs : List Int) (w : World) (h : IRow w a xs.length xs) (hx : xs.length ≤ 1000) (hP : ∀ W, Below w.heap.size w W → ∀ x : Int, Calls Try.prog 35 #[.int .i64 x, .pointer (some ⟨p3, 0, none⟩), .pointer (some ⟨p11, 0, none⟩)] W fun e w' => e = .returned (.bool (P x)) ∧ Below W.heap.size W w') :
    Calls Try.prog 24 #[.slice a xs.length c, .func (.func 35) #[] #[.pointer (some ⟨p3, 0, none⟩), .pointer (some ⟨p11, 0, none⟩)]] w (Own (plc P xs xs.length) w) := by
  have A := Lib.hid h
  have C := Lib.hid hP
  clear h hP
  go_enter Try.func24, Try.ntmps24
  go_wp2_with fail
  go_loopg [5, 10] (xs.length + 1) (fun m v jj wr => ∃ j : Nat, j ≤ xs.length ∧ m + j = xs.length + 1 ∧ jj = .int .i64 j ∧ Below w.heap.size w wr ∧ ORow wr w.heap.size v (plc P xs j))
  case atStart => exact ⟨0, Nat.zero_le _, by omega, rfl, Below.refl _ _, ORow.nil _ _⟩
  case round =>
    obtain ⟨j, hj, hmj, rfl, hw, hown⟩ := hrel
    have H := Lib.hid hown
    clear hown
    have hlen := plc_len P xs j
    by_cases hlt : j < xs.length
    · obtain ⟨x, hx'⟩ : ∃ x, xs[j]? = some x := ⟨xs[j], by simp [hlt]⟩
      obtain ⟨b1, q1, rfl, lb1, hx1⟩ := A.out.2.2 (by omega)
      have y1 := hx1 j x hx'
      have z1 := hw.cell (p := ⟨b1, q1 + j, none⟩) lb1
      rw [y1] at z1
      have HX := Lib.hid hx'
      have CX := Lib.hid (C.out wr hw x)
      have HE := Lib.hid (plc_next (P := P) hx')
      clear hx1 hx' y1
      have i0 : (0 : Int) ≤ (j : Int) := Int.natCast_nonneg _
      have i1 : (j : Int) < (xs.length : Int) := by omega
      go_wp2_with fail
      refine CX.out.mono ?_
      rintro e w1 ⟨rfl, hb1⟩
      have k1 : Below w.heap.size w w1 := hw.trans (hb1.mono hw.size)
      have O1 := Lib.hid (H.out.below hb1 (Nat.le_refl _))
      cases hk : P x
      · go_wp2_with fail
        go_roundg (gk - 1)
        case measure => omega
        case rel =>
          go_light
          refine ⟨j + 1, by omega, by omega, by go_num, k1, ?_⟩
          rw [HE.out, hk]
          simpa using O1.out
      · go_wp2_with (at_builtin; refine wpList_app rfl _ _ rfl w.heap.size _ _ [(j : Int) + 1] rfl (O1.out.below ((Below.refl _ _).alloc (Nat.le_refl _) (.cells #[.int .i64 ((j : Int) + 1)] 3)) (Nat.le_refl _)) (some ⟨w1.heap.size, 0, none⟩) 1 1 rfl (irow1S _ _ _) (fun h => by cases h) ?c1 ?c2 ?_)
        case c1 => omega
        case c2 => have := k1.size; simp; omega
        intro v' w2 hO2 hb2
        have O2 := Lib.hid hO2
        clear hO2
        go_wp2_with fail
        go_roundg (gk - 1)
        case measure => omega
        case rel =>
          go_light
          refine ⟨j + 1, by omega, by omega, by go_num, (k1.alloc k1.size _).trans hb2, ?_⟩
          rw [HE.out, hk]
          exact O2.out
    · have i1 : ¬ (j : Int) < (xs.length : Int) := by omega
      have hjn : j = xs.length := by omega
      rw [hjn] at H
      clear hjn
      go_wp2_with fail
      go_light
      go_ret
      exact ⟨u5, rfl, H.out, hw⟩
end Go.Proofs.Ytpnlhkpibgngbaa

/- The program's comparison of two rows. -/
import Derived.Test.YtaoobajokhcimaaGreatDoorCpF
set_option linter.unusedSimpArgs false
set_option linter.unusedVariables false
set_option linter.constructorNameAsVariable false
namespace Go.Proofs.YtaoobajokhcimaaGreatDoor
open Go.RowKit Go.Sort

theorem row_step (op : Int) (x y : At) (r : List At) : rowF op x (y :: r) = if (pairF op x y).1 || (pairF op x y).2 != 0 then pairF op x y else rowF op x r := rfl
theorem gen_step (op : Int) (x : At) (r ys : List At) : genF op (x :: r) ys = if (rowF op x ys).1 || (rowF op x ys).2 != 0 then rowF op x ys else genF op r ys := rfl
theorem drop_cons {xs : List At} {j : Nat} {x : At} (h : xs[j]? = some x) : xs.drop j = x :: xs.drop (j + 1) := by
  have hlt : j < xs.length := by
    rcases Nat.lt_or_ge j xs.length with h' | h'
    · exact h'
    · simp [List.getElem?_eq_none h'] at h
  rw [List.getElem?_eq_getElem hlt] at h
  rw [List.drop_eq_getElem_cons hlt, Option.some.inj h]
theorem general_out (op : Int) (h : (decide (op < 19) || decide (24 < op)) = true) (a1 a2 : Option Addr) (l1 l2 c1 c2 : Nat) (w : World) : Calls Tryz.prog 31 #[.int .i64 op, .slice a1 l1 c1, .slice a2 l2 c2] w fun e w' => e = .returned (.tuple #[.bool false, .int .i64 2]) ∧ Below w.heap.size w w' := by
  cases e1 : decide (op < 19)
  · rw [e1] at h
    have e2 : decide (24 < op) = true := h
    go_enter Tryz.func31, Tryz.ntmps31
    go_wp2_with fail
    go_ret2
    exact ⟨rfl, Below.refl _ _⟩
  · go_enter Tryz.func31, Tryz.ntmps31
    go_wp2_with fail
    go_ret2
    exact ⟨rfl, Below.refl _ _⟩
set_option maxRecDepth 100000 in
set_option maxHeartbeats 4000000 in
theorem general_in (op : Int) (h : (decide (op < 19) || decide (24 < op)) = false) (a1 a2 : Option Addr) (c1 c2 : Nat) (xs ys : List At) (w : World) (hX : TRow w a1 xs) (hY : TRow w a2 ys) (lx : xs.length ≤ 1000000) (ly : ys.length ≤ 1000000)
    (hP : ∀ x ∈ xs, ∀ y ∈ ys, ∀ w', Below w.heap.size w w' → Calls Tryz.prog 59 #[.int .i64 (op - 19 + 13), AV x, AV y] w' fun e w'' => e = .returned (.tuple #[.bool (pairF (op - 19 + 13) x y).1, .int .i64 (pairF (op - 19 + 13) x y).2]) ∧ Below w'.heap.size w' w'') :
    Calls Tryz.prog 31 #[.int .i64 op, .slice a1 xs.length c1, .slice a2 ys.length c2] w fun e w' => e = .returned (.tuple #[.bool (genF (op - 19 + 13) xs ys).1, .int .i64 (genF (op - 19 + 13) xs ys).2]) ∧ Below w.heap.size w w' := by
  have HX := Lib.hid hX
  have HY := Lib.hid hY
  have HP := Lib.hid hP
  clear hX hY hP
  simp only [Bool.or_eq_false_iff] at h
  obtain ⟨e1, e2⟩ := h
  have p1 : IntKind.i64.wrap (op - 19) = op - 19 := IntWalk.i64_in _ (by simp at e1 e2; omega)
  have p2 : IntKind.i64.wrap (op - 19 + 13) = op - 19 + 13 := IntWalk.i64_in _ (by simp at e1 e2; omega)
  obtain ⟨O, hO⟩ : ∃ O, op - 19 + 13 = O := ⟨_, rfl⟩
  rw [hO] at HP p2 ⊢
  obtain ⟨GV, GR, hG⟩ : ∃ GV GR, genF O xs ys = (GV, GR) := ⟨_, _, rfl⟩
  rw [hG]
  have HG := Lib.hid hG
  clear hG
  simp only
  go_enter Tryz.func31, Tryz.ntmps31
  go_wp2_with fail
  go_loopg [22] (xs.length + 1) (fun m jj wr => ∃ j : Nat, j ≤ xs.length ∧ m + j = xs.length + 1 ∧ jj = .int .i64 (j : Int) ∧ Below w.heap.size w wr ∧ Hid (genF O (xs.drop j) ys = (GV, GR)))
  case atStart => exact ⟨0, by omega, by omega, rfl, Below.refl _ _, by unfold Hid; rw [List.drop_zero]; exact HG.out⟩
  case round =>
    obtain ⟨j, hj, hmj, rfl, hw, HD⟩ := hrel
    have hj0 : (0 : Int) ≤ (j : Int) := Int.natCast_nonneg _
    by_cases hlt : j < xs.length
    · obtain ⟨x, hjx⟩ : ∃ x, xs[j]? = some x := ⟨xs[j], by simp [hlt]⟩
      have hd := HD.out
      rw [drop_cons hjx, gen_step] at hd
      have HD2 := Lib.hid hd
      have HPx := Lib.hid (HP.out x (List.mem_of_getElem? hjx))
      rcases HX.out with h0 | ⟨b, o, rfl, hb, hc⟩
      · rw [h0] at hlt; simp at hlt
      obtain ⟨x0, x1, x2, x3, x4⟩ := hc j x hjx
      have y0 := (hw.cell (p := ⟨b, o + j * 5, none⟩) hb).trans x0
      have y1 := (hw.cell (p := ⟨b, o + j * 5 + 1, none⟩) hb).trans x1
      have y2 := (hw.cell (p := ⟨b, o + j * 5 + 2, none⟩) hb).trans x2
      have y3 := (hw.cell (p := ⟨b, o + j * 5 + 3, none⟩) hb).trans x3
      have y4 := (hw.cell (p := ⟨b, o + j * 5 + 4, none⟩) hb).trans x4
      clear x0 x1 x2 x3 x4 hc hjx hd HD HP
      obtain ⟨k, n, s, t, bb⟩ := x
      simp only at y0 y1 y2 y3 y4
      have i0 : decide ((j : Int) < (xs.length : Int)) = true := by simp; omega
      obtain ⟨RV, RR, hRR⟩ : ∃ RV RR, rowF O ⟨k, n, s, t, bb⟩ ys = (RV, RR) := ⟨_, _, rfl⟩
      have HRR := Lib.hid hRR
      have hd2 := HD2.out
      rw [hRR] at hd2
      have HD3 := Lib.hid (show (if RV || RR != 0 then (RV, RR) else genF O (xs.drop (j + 1)) ys) = (GV, GR) from hd2)
      clear hRR hd2 HD2
      go_wp2_with fail
      have B9 : Blk (wr.alloc (.cells #[.int .i64 k, .int .i64 n, .int .i64 s, .string t, .bool bb] 24)) wr.heap.size #[.int .i64 k, .int .i64 n, .int .i64 s, .string t, .bool bb] 24 := Blk.here rfl rfl
      have hw1 := hw.alloc hw.size (.cells #[.int .i64 k, .int .i64 n, .int .i64 s, .string t, .bool bb] 24)
      clear y0 y1 y2 y3 y4
      generalize wr.alloc (.cells #[.int .i64 k, .int .i64 n, .int .i64 s, .string t, .bool bb] 24) = W at *
      obtain ⟨G, hGk⟩ : ∃ G, G = gk := ⟨_, rfl⟩
      subst hGk
      go_loopg [28] (ys.length + 1) (fun m ii wi => ∃ i : Nat, i ≤ ys.length ∧ m + i = ys.length + 1 ∧ ii = .int .i64 (i : Int) ∧ Below W.heap.size W wi ∧ Hid (rowF O ⟨k, n, s, t, bb⟩ (ys.drop i) = (RV, RR)))
      case atStart => exact ⟨0, by omega, by omega, rfl, Below.refl _ _, by unfold Hid; rw [List.drop_zero]; exact HRR.out⟩
      case round =>
        obtain ⟨i, hi, hmi, rfl, hwi, HE⟩ := hrel
        have hi0 : (0 : Int) ≤ (i : Int) := Int.natCast_nonneg _
        have hwx := hw1.trans (hwi.mono hw1.size)
        have B9i := B9.below hwi B9.lt
        obtain ⟨⟨q0, q1, q2, q3, q4⟩, -⟩ := B9i.five
        have kq := B9i.lt
        by_cases hlti : i < ys.length
        · obtain ⟨y, hiy⟩ : ∃ y, ys[i]? = some y := ⟨ys[i], by simp [hlti]⟩
          have he := HE.out
          rw [drop_cons hiy, row_step] at he
          have CP := Lib.hid (HPx.out y (List.mem_of_getElem? hiy))
          rcases HY.out with h0 | ⟨b2, o2, rfl, hb2, hc2⟩
          · rw [h0] at hlti; simp at hlti
          obtain ⟨x0, x1, x2, x3, x4⟩ := hc2 i y hiy
          have z0 := (hwx.cell (p := ⟨b2, o2 + i * 5, none⟩) hb2).trans x0
          have z1 := (hwx.cell (p := ⟨b2, o2 + i * 5 + 1, none⟩) hb2).trans x1
          have z2 := (hwx.cell (p := ⟨b2, o2 + i * 5 + 2, none⟩) hb2).trans x2
          have z3 := (hwx.cell (p := ⟨b2, o2 + i * 5 + 3, none⟩) hb2).trans x3
          have z4 := (hwx.cell (p := ⟨b2, o2 + i * 5 + 4, none⟩) hb2).trans x4
          have kb2 : b2 < wr.heap.size := Nat.lt_of_lt_of_le hb2 hwx.size
          clear x0 x1 x2 x3 x4 hc2 hiy HE
          obtain ⟨k2, n2, s2, t2, b2v⟩ := y
          simp only at z0 z1 z2 z3 z4
          have i1 : decide ((i : Int) < (ys.length : Int)) = true := by simp; omega
          obtain ⟨pv, pr, hpr⟩ : ∃ pv pr, pairF O ⟨k, n, s, t, bb⟩ ⟨k2, n2, s2, t2, b2v⟩ = (pv, pr) := ⟨_, _, rfl⟩
          rw [hpr] at CP he
          clear hpr
          simp only at CP he
          cases ev : pv
          · subst ev
            cases er : (pr != 0)
            · rw [er] at he
              have HE2 := Lib.hid (show rowF O ⟨k, n, s, t, bb⟩ (ys.drop (i + 1)) = (RV, RR) from he)
              clear he
              go_wp2_with (go_at_call 59; with_reducible refine (CP.out _ (hwx.alloc hwx.size _)).mono ?_; rintro e w5 ⟨rfl, hb5⟩
                           have hw5 := (hwi.alloc hwi.size (.cells #[.int .i64 k2, .int .i64 n2, .int .i64 s2, .string t2, .bool b2v] 24)).trans (hb5.mono (by have := hwi.size; simp; omega)))
              go_roundg (gk - 1)
              case measure => omega
              case rel => exact ⟨i + 1, by omega, by omega, by go_num, hw5, HE2⟩
            · rw [er] at he
              obtain ⟨f1, f2⟩ := Prod.mk.inj (show ((false, pr) : Bool × Int) = (RV, RR) from he)
              subst f1 f2
              have h3 := HD3.out
              rw [Bool.false_or, er] at h3
              obtain ⟨g1, g2⟩ := Prod.mk.inj (show ((false, pr) : Bool × Int) = (GV, GR) from h3)
              subst g1 g2
              clear he h3 HD3 HG
              go_wp2_with (go_at_call 59; with_reducible refine (CP.out _ (hwx.alloc hwx.size _)).mono ?_; rintro e w5 ⟨rfl, hb5⟩
                           have hw5 := (hwx.alloc hwx.size (.cells #[.int .i64 k2, .int .i64 n2, .int .i64 s2, .string t2, .bool b2v] 24)).trans (hb5.mono (by have := hwx.size; simp; omega)))
              go_ret2
              exact ⟨rfl, hw5⟩
          · subst ev
            obtain ⟨f1, f2⟩ := Prod.mk.inj (show ((true, pr) : Bool × Int) = (RV, RR) from he)
            subst f1 f2
            have h3 := HD3.out
            obtain ⟨g1, g2⟩ := Prod.mk.inj (show ((true, pr) : Bool × Int) = (GV, GR) from h3)
            subst g1 g2
            clear he h3 HD3 HG
            go_wp2_with (go_at_call 59; with_reducible refine (CP.out _ (hwx.alloc hwx.size _)).mono ?_; rintro e w5 ⟨rfl, hb5⟩
                         have hw5 := (hwx.alloc hwx.size (.cells #[.int .i64 k2, .int .i64 n2, .int .i64 s2, .string t2, .bool b2v] 24)).trans (hb5.mono (by have := hwx.size; simp; omega)))
            go_ret2
            exact ⟨rfl, hw5⟩
        · have i1 : decide ((i : Int) < (ys.length : Int)) = false := by simp; omega
          have he := HE.out
          rw [List.drop_eq_nil_of_le (by omega)] at he
          obtain ⟨f1, f2⟩ := Prod.mk.inj (show ((false, 0) : Bool × Int) = (RV, RR) from he)
          subst f1 f2
          have h3 := HD3.out
          have H3 := Lib.hid (show genF O (xs.drop (j + 1)) ys = (GV, GR) from h3)
          clear he h3 HD3 HE
          go_wp2_with fail
          go_roundg (G - 1)
          case measure => omega
          case rel => exact ⟨j + 1, by omega, by omega, by go_num, hwx, H3⟩
    · have i0 : decide ((j : Int) < (xs.length : Int)) = false := by simp; omega
      have hd := HD.out
      rw [List.drop_eq_nil_of_le (by omega)] at hd
      obtain ⟨g1, g2⟩ := Prod.mk.inj (show ((false, 0) : Bool × Int) = (GV, GR) from hd)
      subst g1 g2
      clear hd HD HG
      go_wp2_with fail
      go_ret2
      exact ⟨rfl, hw⟩
end Go.Proofs.YtaoobajokhcimaaGreatDoor

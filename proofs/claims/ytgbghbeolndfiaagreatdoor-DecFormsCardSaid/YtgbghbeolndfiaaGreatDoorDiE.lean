/- The document's numbers: digits added. -/
import Derived.Test.YtgbghbeolndfiaaGreatDoorDiD
set_option linter.unusedSimpArgs false
set_option linter.unusedVariables false
namespace Go.Proofs.YtgbghbeolndfiaaGreatDoor
open Go.RowKit

theorem drop_at {xs : List Int} {j : Nat} {x : Int} (h : xs[j]? = some x) : xs.drop j = x :: xs.drop (j + 1) := by
  have hj : j < xs.length := by
    rcases Nat.lt_or_ge j xs.length with h' | h'
    · exact h'
    · rw [List.getElem?_eq_none h'] at h; cases h
  rw [List.getElem?_eq_getElem hj] at h
  cases h
  exact List.drop_eq_getElem_cons hj
set_option maxRecDepth 100000 in
set_option maxHeartbeats 8000000 in
theorem dplus_any (a b : Option Addr) (c d : Nat) (xs ys : List Int) (w : World) (hI : IRow w a xs.length xs) (hJ : IRow w b ys.length ys) (gx : Dg xs) (gy : Dg ys) (hl : xs.length ≤ 1000000) (hm : ys.length ≤ 1000000) : Calls Tryz.prog 79 #[.slice a xs.length c, .slice b ys.length d] w fun e w' =>
    ∃ v, e = .returned v ∧ ORow w' w.heap.size v (plusL xs ys 0) ∧ Below w.heap.size w w' := by
  have HI := Lib.hid hI
  have HJ := Lib.hid hJ
  have GX := Lib.hid gx
  have GY := Lib.hid gy
  clear hI hJ gx gy
  obtain ⟨M, hM⟩ : ∃ M, M = max xs.length ys.length := ⟨_, rfl⟩
  have hM1 : xs.length ≤ M := by omega
  have hM2 : ys.length ≤ M := by omega
  have hM3 : M ≤ 1000000 := by omega
  clear hM
  go_enter Tryz.func79, Tryz.ntmps79
  go_wp2_with fail
  go_loopg [5, 6, 7] (M + 1) (fun m ov cv iv wr => ∃ (i : Nat) (cr : Int) (zs : List Int), m + i = M + 1 ∧ (i ≤ M ∨ cr = 0) ∧ iv = .int .i64 (i : Int) ∧ cv = .int .i64 cr ∧ 0 ≤ cr ∧ cr ≤ 1 ∧ zs.length = i ∧ ORow wr w.heap.size ov zs ∧ plusL xs ys 0 = zs ++ plusL (xs.drop i) (ys.drop i) cr ∧ Below w.heap.size w wr)
  case atStart => exact ⟨0, 0, [], by omega, .inl (by omega), rfl, rfl, by omega, by omega, rfl, ORow.nil _ _, rfl, Below.refl _ _⟩
  case round =>
    obtain ⟨i, cr, zs, hmi, hic, rfl, rfl, hc0, hc1, hz, hO, hp, hw⟩ := hrel
    have hi0 : (0 : Int) ≤ (i : Int) := Int.natCast_nonneg _
    have j3 : IntKind.i64.wrap ((i : Int) + 1) = (i : Int) + 1 := IntWalk.i64_in _ (by omega)
    by_cases hx0 : i < xs.length
    · by_cases hy0 : i < ys.length
      · obtain ⟨x, hx, -⟩ := at_lt xs hx0
        obtain ⟨p, o, rfl, hpb, y0⟩ := irow_at HI.out hx
        have z0 := (hw.cell (p := ⟨p, o + i, none⟩) hpb).trans y0
        have gx := GX.out.at hx
        rw [drop_at hx] at hp
        clear y0
        obtain ⟨y, hy, -⟩ := at_lt ys hy0
        obtain ⟨q, t, rfl, hqb, y1⟩ := irow_at HJ.out hy
        have z1 := (hw.cell (p := ⟨q, t + i, none⟩) hqb).trans y1
        have gy := GY.out.at hy
        rw [drop_at hy] at hp
        clear y1
        have i1 : decide ((i : Int) < (xs.length : Int)) = true := by simp; omega
        have i2 : decide ((i : Int) < (ys.length : Int)) = true := by simp; omega
        rw [plusL] at hp
        have s1 : IntKind.i64.wrap (cr + x) = cr + x := IntWalk.i64_in _ (by omega)
        have s2 : IntKind.i64.wrap (cr + x + y) = cr + x + y := IntWalk.i64_in _ (by omega)
        obtain ⟨s, hs⟩ : ∃ s, cr + x + y = s := ⟨_, rfl⟩
        rw [hs] at s2
        obtain ⟨sd, hsd⟩ : ∃ sd, s.tmod 10 = sd := ⟨_, rfl⟩
        obtain ⟨sc, hsc⟩ : ∃ sc, s.tdiv 10 = sc := ⟨_, rfl⟩
        have tm : s.tmod 10 = s % 10 := Int.tmod_eq_emod_of_nonneg (by omega)
        have td : s.tdiv 10 = s / 10 := Int.tdiv_eq_ediv_of_nonneg (by omega)
        have w1' : IntKind.i64.wrap sd = sd := IntWalk.i64_in _ (by omega)
        have w2' : IntKind.i64.wrap sc = sc := IntWalk.i64_in _ (by omega)
        have sc0 : 0 ≤ sc ∧ sc ≤ 1 := by omega
        rw [show (x + y + cr) % 10 = sd by omega, show (x + y + cr) / 10 = sc by omega] at hp
        have HP := Lib.hid hp
        have H := Lib.hid hO
        clear hp hO tm td
        go_wp2_with (at_builtin; refine wpList_app rfl _ _ rfl w.heap.size _ _ [sd] rfl (H.out.below ((Below.refl _ _).alloc (Nat.le_refl _) (.cells #[.int .i64 sd] 3)) (Nat.le_refl _)) (some ⟨wr.heap.size, 0, none⟩) 1 1 rfl (irow1 _ _ _) (fun h => by cases h) ?c1 ?c2 ?_)
        case c1 => simp; omega
        case c2 => have := hw.size; simp; omega
        intro v' w1 hO1 hb1
        have H1 := Lib.hid hO1
        clear hO1
        go_wp2_with fail
        go_roundg (gk - 1)
        case measure => omega
        case rel => exact ⟨i + 1, sc, zs ++ [sd], by omega, .inl (by omega), by go_num, rfl, sc0.1, sc0.2, by simp; omega, H1.out, by rw [HP.out, List.append_assoc]; rfl, (hw.alloc hw.size _).trans hb1⟩
      · obtain ⟨x, hx, -⟩ := at_lt xs hx0
        obtain ⟨p, o, rfl, hpb, y0⟩ := irow_at HI.out hx
        have z0 := (hw.cell (p := ⟨p, o + i, none⟩) hpb).trans y0
        have gx := GX.out.at hx
        rw [drop_at hx] at hp
        clear y0
        have i1 : decide ((i : Int) < (xs.length : Int)) = true := by simp; omega
        have i2 : decide ((i : Int) < (ys.length : Int)) = false := by simp; omega
        rw [List.drop_eq_nil_of_le (show ys.length ≤ i by omega)] at hp
        rw [plusL] at hp
        rw [show ([] : List Int) = ys.drop (i + 1) from (List.drop_eq_nil_of_le (by omega)).symm] at hp
        have s1 : IntKind.i64.wrap (cr + x) = cr + x := IntWalk.i64_in _ (by omega)
        obtain ⟨s, hs⟩ : ∃ s, cr + x = s := ⟨_, rfl⟩
        rw [hs] at s1
        obtain ⟨sd, hsd⟩ : ∃ sd, s.tmod 10 = sd := ⟨_, rfl⟩
        obtain ⟨sc, hsc⟩ : ∃ sc, s.tdiv 10 = sc := ⟨_, rfl⟩
        have tm : s.tmod 10 = s % 10 := Int.tmod_eq_emod_of_nonneg (by omega)
        have td : s.tdiv 10 = s / 10 := Int.tdiv_eq_ediv_of_nonneg (by omega)
        have w1' : IntKind.i64.wrap sd = sd := IntWalk.i64_in _ (by omega)
        have w2' : IntKind.i64.wrap sc = sc := IntWalk.i64_in _ (by omega)
        have sc0 : 0 ≤ sc ∧ sc ≤ 1 := by omega
        rw [show (x + cr) % 10 = sd by omega, show (x + cr) / 10 = sc by omega] at hp
        have HP := Lib.hid hp
        have H := Lib.hid hO
        clear hp hO tm td
        go_wp2_with (at_builtin; refine wpList_app rfl _ _ rfl w.heap.size _ _ [sd] rfl (H.out.below ((Below.refl _ _).alloc (Nat.le_refl _) (.cells #[.int .i64 sd] 3)) (Nat.le_refl _)) (some ⟨wr.heap.size, 0, none⟩) 1 1 rfl (irow1 _ _ _) (fun h => by cases h) ?c1 ?c2 ?_)
        case c1 => simp; omega
        case c2 => have := hw.size; simp; omega
        intro v' w1 hO1 hb1
        have H1 := Lib.hid hO1
        clear hO1
        go_wp2_with fail
        go_roundg (gk - 1)
        case measure => omega
        case rel => exact ⟨i + 1, sc, zs ++ [sd], by omega, .inl (by omega), by go_num, rfl, sc0.1, sc0.2, by simp; omega, H1.out, by rw [HP.out, List.append_assoc]; rfl, (hw.alloc hw.size _).trans hb1⟩
    · by_cases hy0 : i < ys.length
      · obtain ⟨y, hy, -⟩ := at_lt ys hy0
        obtain ⟨q, t, rfl, hqb, y1⟩ := irow_at HJ.out hy
        have z1 := (hw.cell (p := ⟨q, t + i, none⟩) hqb).trans y1
        have gy := GY.out.at hy
        rw [drop_at hy] at hp
        clear y1
        have i1 : decide ((i : Int) < (xs.length : Int)) = false := by simp; omega
        have i2 : decide ((i : Int) < (ys.length : Int)) = true := by simp; omega
        rw [List.drop_eq_nil_of_le (show xs.length ≤ i by omega)] at hp
        rw [plusL] at hp
        rw [show ([] : List Int) = xs.drop (i + 1) from (List.drop_eq_nil_of_le (by omega)).symm] at hp
        have s1 : IntKind.i64.wrap (cr + y) = cr + y := IntWalk.i64_in _ (by omega)
        obtain ⟨s, hs⟩ : ∃ s, cr + y = s := ⟨_, rfl⟩
        rw [hs] at s1
        obtain ⟨sd, hsd⟩ : ∃ sd, s.tmod 10 = sd := ⟨_, rfl⟩
        obtain ⟨sc, hsc⟩ : ∃ sc, s.tdiv 10 = sc := ⟨_, rfl⟩
        have tm : s.tmod 10 = s % 10 := Int.tmod_eq_emod_of_nonneg (by omega)
        have td : s.tdiv 10 = s / 10 := Int.tdiv_eq_ediv_of_nonneg (by omega)
        have w1' : IntKind.i64.wrap sd = sd := IntWalk.i64_in _ (by omega)
        have w2' : IntKind.i64.wrap sc = sc := IntWalk.i64_in _ (by omega)
        have sc0 : 0 ≤ sc ∧ sc ≤ 1 := by omega
        rw [show (y + cr) % 10 = sd by omega, show (y + cr) / 10 = sc by omega] at hp
        have HP := Lib.hid hp
        have H := Lib.hid hO
        clear hp hO tm td
        go_wp2_with (at_builtin; refine wpList_app rfl _ _ rfl w.heap.size _ _ [sd] rfl (H.out.below ((Below.refl _ _).alloc (Nat.le_refl _) (.cells #[.int .i64 sd] 3)) (Nat.le_refl _)) (some ⟨wr.heap.size, 0, none⟩) 1 1 rfl (irow1 _ _ _) (fun h => by cases h) ?c1 ?c2 ?_)
        case c1 => simp; omega
        case c2 => have := hw.size; simp; omega
        intro v' w1 hO1 hb1
        have H1 := Lib.hid hO1
        clear hO1
        go_wp2_with fail
        go_roundg (gk - 1)
        case measure => omega
        case rel => exact ⟨i + 1, sc, zs ++ [sd], by omega, .inl (by omega), by go_num, rfl, sc0.1, sc0.2, by simp; omega, H1.out, by rw [HP.out, List.append_assoc]; rfl, (hw.alloc hw.size _).trans hb1⟩
      · have i1 : decide ((i : Int) < (xs.length : Int)) = false := by simp; omega
        have i2 : decide ((i : Int) < (ys.length : Int)) = false := by simp; omega
        rw [List.drop_eq_nil_of_le (show xs.length ≤ i by omega)] at hp
        rw [List.drop_eq_nil_of_le (show ys.length ≤ i by omega)] at hp
        rw [plusL] at hp
        by_cases hcr : cr = 0
        · subst hcr
          rw [show (if decide ((0 : Int) < 0) = true then [(0 : Int)] else []) = [] from rfl, List.append_nil] at hp
          have H := Lib.hid hO
          have HP := Lib.hid hp
          clear hO hp
          go_wp2_with fail
          go_light
          go_ret
          exact ⟨_, rfl, by rw [HP.out]; exact H.out, hw⟩
        · have hcr1 : cr = 1 := by omega
          subst hcr1
          rw [show (if decide ((0 : Int) < 1) = true then [(1 : Int)] else []) = [1] from rfl] at hp
          have HP := Lib.hid hp
          have H := Lib.hid hO
          clear hp hO
          go_wp2_with (at_builtin; refine wpList_app rfl _ _ rfl w.heap.size _ _ [1] rfl (H.out.below ((Below.refl _ _).alloc (Nat.le_refl _) (.cells #[.int .i64 1] 3)) (Nat.le_refl _)) (some ⟨wr.heap.size, 0, none⟩) 1 1 rfl (irow1 _ _ _) (fun h => by cases h) ?c1 ?c2 ?_)
          case c1 => simp; omega
          case c2 => have := hw.size; simp; omega
          intro v' w1 hO1 hb1
          have H1 := Lib.hid hO1
          clear hO1
          go_wp2_with fail
          go_roundg (gk - 1)
          case measure => omega
          case rel => exact ⟨i + 1, 0, zs ++ [1], by omega, .inr rfl, by go_num, rfl, by omega, by omega, by simp; omega, H1.out, by rw [HP.out, List.drop_eq_nil_of_le (show xs.length ≤ i + 1 by omega), List.drop_eq_nil_of_le (show ys.length ≤ i + 1 by omega), plusL]; simp, (hw.alloc hw.size _).trans hb1⟩
end Go.Proofs.YtgbghbeolndfiaaGreatDoor

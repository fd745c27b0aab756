/- The document's numbers: digits taken away. -/
import Derived.Test.YtgbghbeolndfiaaGreatDoorDiE
set_option linter.unusedSimpArgs false
set_option linter.unusedVariables false
namespace Go.Proofs.YtgbghbeolndfiaaGreatDoor
open Go.RowKit

set_option maxRecDepth 100000 in
set_option maxHeartbeats 8000000 in
theorem dminus_any (a b : Option Addr) (c d : Nat) (xs ys : List Int) (w : World) (hI : IRow w a xs.length xs) (hJ : IRow w b ys.length ys) (gx : Dg xs) (gy : Dg ys) (hl : xs.length ≤ 1000000) (hm : ys.length ≤ 1000000) (hle : ys.length ≤ xs.length) : Calls Tryz.prog 81 #[.slice a xs.length c, .slice b ys.length d] w fun e w' =>
    ∃ v, e = .returned v ∧ DRow w' w.heap.size v (trimL (minusL xs ys 0)) ∧ Below w.heap.size w w' := by
  have HI := Lib.hid hI
  have HJ := Lib.hid hJ
  have GX := Lib.hid gx
  have GY := Lib.hid gy
  have hlen := (minusL_spec xs ys 0 gx gy (by omega) (by omega) hle).2.2
  clear hI hJ gx gy
  go_enter Tryz.func81, Tryz.ntmps81
  go_wp2_with fail
  go_loopg [5, 6, 7] (xs.length) (fun m ov cv iv wr => ∃ (i : Nat) (cr : Int) (zs : List Int), m + i = xs.length ∧ iv = .int .i64 (i : Int) ∧ cv = .int .i64 cr ∧ 0 ≤ cr ∧ cr ≤ 1 ∧ zs.length = i ∧ ORow wr w.heap.size ov zs ∧ minusL xs ys 0 = zs ++ minusL (xs.drop i) (ys.drop i) cr ∧ Below w.heap.size w wr)
  case atStart => exact ⟨0, 0, [], by omega, rfl, rfl, by omega, by omega, rfl, ORow.nil _ _, rfl, Below.refl _ _⟩
  case round =>
    obtain ⟨i, cr, zs, hmi, rfl, rfl, hc0, hc1, hz, hO, hp, hw⟩ := hrel
    have hi0 : (0 : Int) ≤ (i : Int) := Int.natCast_nonneg _
    have j3 : IntKind.i64.wrap ((i : Int) + 1) = (i : Int) + 1 := IntWalk.i64_in _ (by omega)
    by_cases hx0 : i < xs.length
    · obtain ⟨x, hx, -⟩ := at_lt xs hx0
      obtain ⟨p, o, rfl, hpb, y0⟩ := irow_at HI.out hx
      have z0 := (hw.cell (p := ⟨p, o + i, none⟩) hpb).trans y0
      have gx := GX.out.at hx
      rw [drop_at hx] at hp
      have i1 : decide ((i : Int) < (xs.length : Int)) = true := by simp; omega
      have s1 : IntKind.i64.wrap (x - cr) = x - cr := IntWalk.i64_in _ (by omega)
      clear y0
      by_cases hy0 : i < ys.length
      · obtain ⟨y, hy, -⟩ := at_lt ys hy0
        obtain ⟨q, t, rfl, hqb, y1⟩ := irow_at HJ.out hy
        have z1 := (hw.cell (p := ⟨q, t + i, none⟩) hqb).trans y1
        have gy := GY.out.at hy
        rw [drop_at hy, minusL] at hp
        have i2 : decide ((i : Int) < (ys.length : Int)) = true := by simp; omega
        have s2 : IntKind.i64.wrap (x - cr - y) = x - cr - y := IntWalk.i64_in _ (by omega)
        clear y1
        obtain ⟨s, hs⟩ : ∃ s, x - cr - y = s := ⟨_, rfl⟩
        rw [hs] at s2 hp
        have s3 : IntKind.i64.wrap (s + 10) = s + 10 := IntWalk.i64_in _ (by omega)
        have H := Lib.hid hO
        clear hO
        cases e1 : decide (s < 0)
        · rw [e1] at hp
          simp only [if_true, if_false, Bool.false_eq_true] at hp
          have HP := Lib.hid hp
          clear hp
          go_wp2_with (at_builtin; refine wpList_app rfl _ _ rfl w.heap.size _ _ [s] rfl (H.out.below ((Below.refl _ _).alloc (Nat.le_refl _) (.cells #[.int .i64 (s)] 3)) (Nat.le_refl _)) (some ⟨wr.heap.size, 0, none⟩) 1 1 rfl (irow1 _ _ _) (fun h => by cases h) ?c1 ?c2 ?_)
          case c1 => simp; omega
          case c2 => have := hw.size; simp; omega
          intro v' w1 hO1 hb1
          have H1 := Lib.hid hO1
          clear hO1
          go_wp2_with fail
          go_roundg (gk - 1)
          case measure => omega
          case rel => exact ⟨i + 1, 0, zs ++ [s], by omega, by go_num, rfl, by omega, by omega, by simp; omega, H1.out, by rw [HP.out, List.append_assoc]; rfl, (hw.alloc hw.size _).trans hb1⟩
        · rw [e1] at hp
          simp only [if_true, if_false, Bool.false_eq_true] at hp
          have HP := Lib.hid hp
          clear hp
          go_wp2_with (at_builtin; refine wpList_app rfl _ _ rfl w.heap.size _ _ [s + 10] rfl (H.out.below ((Below.refl _ _).alloc (Nat.le_refl _) (.cells #[.int .i64 (s + 10)] 3)) (Nat.le_refl _)) (some ⟨wr.heap.size, 0, none⟩) 1 1 rfl (irow1 _ _ _) (fun h => by cases h) ?c1 ?c2 ?_)
          case c1 => simp; omega
          case c2 => have := hw.size; simp; omega
          intro v' w1 hO1 hb1
          have H1 := Lib.hid hO1
          clear hO1
          go_wp2_with fail
          go_roundg (gk - 1)
          case measure => omega
          case rel => exact ⟨i + 1, 1, zs ++ [s + 10], by omega, by go_num, rfl, by omega, by omega, by simp; omega, H1.out, by rw [HP.out, List.append_assoc]; rfl, (hw.alloc hw.size _).trans hb1⟩
      · rw [List.drop_eq_nil_of_le (show ys.length ≤ i by omega), minusL] at hp
        rw [show ([] : List Int) = ys.drop (i + 1) from (List.drop_eq_nil_of_le (by omega)).symm] at hp
        have i2 : decide ((i : Int) < (ys.length : Int)) = false := by simp; omega
        obtain ⟨s, hs⟩ : ∃ s, x - cr = s := ⟨_, rfl⟩
        rw [hs] at s1 hp
        have s3 : IntKind.i64.wrap (s + 10) = s + 10 := IntWalk.i64_in _ (by omega)
        have H := Lib.hid hO
        clear hO
        cases e1 : decide (s < 0)
        · rw [e1] at hp
          simp only [if_true, if_false, Bool.false_eq_true] at hp
          have HP := Lib.hid hp
          clear hp
          go_wp2_with (at_builtin; refine wpList_app rfl _ _ rfl w.heap.size _ _ [s] rfl (H.out.below ((Below.refl _ _).alloc (Nat.le_refl _) (.cells #[.int .i64 (s)] 3)) (Nat.le_refl _)) (some ⟨wr.heap.size, 0, none⟩) 1 1 rfl (irow1 _ _ _) (fun h => by cases h) ?c1 ?c2 ?_)
          case c1 => simp; omega
          case c2 => have := hw.size; simp; omega
          intro v' w1 hO1 hb1
          have H1 := Lib.hid hO1
          clear hO1
          go_wp2_with fail
          go_roundg (gk - 1)
          case measure => omega
          case rel => exact ⟨i + 1, 0, zs ++ [s], by omega, by go_num, rfl, by omega, by omega, by simp; omega, H1.out, by rw [HP.out, List.append_assoc]; rfl, (hw.alloc hw.size _).trans hb1⟩
        · rw [e1] at hp
          simp only [if_true, if_false, Bool.false_eq_true] at hp
          have HP := Lib.hid hp
          clear hp
          go_wp2_with (at_builtin; refine wpList_app rfl _ _ rfl w.heap.size _ _ [s + 10] rfl (H.out.below ((Below.refl _ _).alloc (Nat.le_refl _) (.cells #[.int .i64 (s + 10)] 3)) (Nat.le_refl _)) (some ⟨wr.heap.size, 0, none⟩) 1 1 rfl (irow1 _ _ _) (fun h => by cases h) ?c1 ?c2 ?_)
          case c1 => simp; omega
          case c2 => have := hw.size; simp; omega
          intro v' w1 hO1 hb1
          have H1 := Lib.hid hO1
          clear hO1
          go_wp2_with fail
          go_roundg (gk - 1)
          case measure => omega
          case rel => exact ⟨i + 1, 1, zs ++ [s + 10], by omega, by go_num, rfl, by omega, by omega, by simp; omega, H1.out, by rw [HP.out, List.append_assoc]; rfl, (hw.alloc hw.size _).trans hb1⟩
    · have i1 : decide ((i : Int) < (xs.length : Int)) = false := by simp; omega
      rw [List.drop_eq_nil_of_le (show xs.length ≤ i by omega), minusL, List.append_nil] at hp
      rw [← hp] at hO hz
      have hl2 : (minusL xs ys 0).length ≤ 1000000 := by omega
      obtain ⟨g, k, rfl, hIr, hck, hk0, hgb⟩ := hO.drow (by omega)
      have TR := Lib.hid (fun w' h => trim_any g k (minusL xs ys 0) w' h hck hk0 hl2)
      have HIr := Lib.hid hIr
      have HGB := Lib.hid hgb
      clear hp hO hlen hIr hz hgb
      obtain ⟨mm, hmm⟩ : ∃ mm, minusL xs ys 0 = mm := ⟨_, rfl⟩
      rw [hmm] at TR HIr hl2 HGB hck
      have HM := Lib.hid hmm
      clear hmm
      simp only [HM.out]
      go_wp2_with (go_at_call 37; with_reducible refine (TR.out _ HIr.out).mono ?_; rintro e w1 ⟨rfl, rfl⟩)
      go_light
      go_ret
      exact ⟨_, rfl, by rw [HM.out]; have := trim_row HIr.out; exact ⟨g, k, rfl, this.1, by omega, hk0, fun h => HGB.out (by omega)⟩, hw⟩
end Go.Proofs.YtgbghbeolndfiaaGreatDoor

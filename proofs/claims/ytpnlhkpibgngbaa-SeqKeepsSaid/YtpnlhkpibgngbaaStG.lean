/- The document's Distinct and Order: what they answer, and that this is what the library makes. -/
import Derived.Test.YtpnlhkpibgngbaaStF
set_option linter.unusedSimpArgs false
set_option linter.unusedVariables false
namespace Go.Proofs.Ytpnlhkpibgngbaa
open Go.RowKit Go.Sort Go.Proofs

theorem distS_any {n : Int} (out : List Int) (t x : Int) : (distS n out t).any (fun z => z.tmod n == x.tmod n) = (out.any (fun z => z.tmod n == x.tmod n) || (t.tmod n == x.tmod n)) := by
  unfold distS
  split
  · rename_i h
    cases hk : (t.tmod n == x.tmod n)
    · simp
    · have e : t.tmod n = x.tmod n := by simpa using hk
      rw [e] at h
      simp [h]
  · simp
/-- Among the first of each rest a rest is met where it is met at all. -/
theorem dist_any (n : Int) (xs : List Int) : ∀ (out : List Int) (x : Int), (xs.foldl (distS n) out).any (fun z => z.tmod n == x.tmod n) = (out.any (fun z => z.tmod n == x.tmod n) || xs.any (fun z => z.tmod n == x.tmod n)) := by
  induction xs with
  | nil => intro out x; simp
  | cons y xs ih =>
    intro out x
    rw [List.foldl_cons, ih, distS_any]
    simp [Bool.or_assoc]
theorem distF_any (n : Int) (xs : List Int) (x : Int) : (distF n xs).any (fun z => z.tmod n == x.tmod n) = xs.any (fun z => z.tmod n == x.tmod n) := by
  unfold distF
  rw [dist_any]
  rfl

set_option maxRecDepth 100000 in
set_option maxHeartbeats 4000000 in
theorem rdist_any (a : Option Addr) (c : Nat) (xs : List Int) (n : Int) (w : World) (h : IRow w a xs.length xs) (hx : xs.length ≤ 1000) (h1 : 1 ≤ n) (h7 : n ≤ 7) :
    Calls Try.prog 30 #[.slice a xs.length c, .int .i64 n] w (Own (distF n xs) w) := by
  have A := Lib.hid h
  clear h
  have hn : n ≠ 0 := by omega
  have hn2 : n ≠ -1 := by omega
  go_enter Try.func30, Try.ntmps30
  go_wp2_with fail
  go_loopg [5, 6] (xs.length + 1) (fun m v jj wr => ∃ j : Nat, j ≤ xs.length ∧ m + j = xs.length + 1 ∧ jj = .int .i64 j ∧ Below w.heap.size w wr ∧ ORow wr w.heap.size v (distF n (xs.take j)))
  case atStart => exact ⟨0, Nat.zero_le _, by omega, rfl, Below.refl _ _, ORow.nil _ _⟩
  case round =>
    obtain ⟨j, hj, hmj, rfl, hw, hown⟩ := hrel
    have H := Lib.hid hown
    clear hown
    have hlen : (distF n (xs.take j)).length ≤ xs.length := by have h1 := distF_len n (xs.take j) []; have h2 := List.length_take_le j xs; unfold distF; simp at h1; omega
    by_cases hlt : j < xs.length
    · obtain ⟨x, hx'⟩ : ∃ x, xs[j]? = some x := ⟨xs[j], by simp [hlt]⟩
      have HX := Lib.hid hx'
      have HE := Lib.hid (distF_next (n := n) hx')
      obtain ⟨b1, q1, rfl, lb1, hx1⟩ := A.out.2.2 (by omega)
      have YX := Lib.hid (hx1 j x hx')
      clear hx1 hx'
      have i0 : (0 : Int) ≤ (j : Int) := Int.natCast_nonneg _
      have i1 : (j : Int) < (xs.length : Int) := by omega
      go_wp2_with fail
      obtain ⟨wo, rfl⟩ : ∃ wo : World, wo = wr := ⟨_, rfl⟩
      obtain ⟨go, hgo⟩ : ∃ go, go = gk := ⟨_, rfl⟩
      subst hgo
      go_loopg [7, 8] (j + 1) (fun m tt kk wr => ∃ k : Nat, k ≤ j ∧ m + k = j + 1 ∧ kk = .int .i64 k ∧ tt = .bool ((xs.take k).any fun z => z.tmod n == x.tmod n) ∧ Below wo.heap.size wo wr)
      case atStart => exact ⟨0, Nat.zero_le _, by omega, rfl, by simp, Below.refl _ _⟩
      case round =>
        obtain ⟨k, hk, hmk, rfl, rfl, hwr⟩ := hrel
        have hw2 : Below w.heap.size w wr := hw.trans (hwr.mono hw.size)
        have zx : wr.cell? ⟨b1, q1 + j, none⟩ = some (.int .i64 x) := by rw [hw2.cell (p := ⟨b1, q1 + j, none⟩) lb1]; exact YX.out
        by_cases hlk : k < j
        · obtain ⟨y, hy⟩ : ∃ y, xs[k]? = some y := ⟨xs[k]'(by omega), by simp⟩
          have zy : wr.cell? ⟨b1, q1 + k, none⟩ = some (.int .i64 y) := by
            rw [hw2.cell (p := ⟨b1, q1 + k, none⟩) lb1]
            obtain ⟨b', q', e, -, hc⟩ := A.out.2.2 (by omega)
            cases e
            exact hc k y hy
          have HY := Lib.hid hy
          clear hy
          have i2 : (0 : Int) ≤ (k : Int) := Int.natCast_nonneg _
          have i3 : (k : Int) < (xs.length : Int) := by omega
          have i4 : (k : Int) < (j : Int) := by omega
          have HT : Hid (((xs.take (k + 1)).any fun z => z.tmod n == x.tmod n) = (((xs.take k).any fun z => z.tmod n == x.tmod n) || (y.tmod n == x.tmod n))) := by
            show _ = _
            rw [List.take_add_one, HY.out]
            simp
          cases hany : (xs.take k).any fun z => z.tmod n == x.tmod n <;> cases hyx : (y.tmod n == x.tmod n)
          all_goals go_wp2_with fail
          all_goals go_quiet (fail)
          all_goals go_wp2_with fail
          all_goals
            go_roundg (gk - 1)
            case measure => omega
            case rel =>
              go_light
              exact ⟨k + 1, by omega, by omega, by go_num, by rw [HT.out, hany, hyx]; rfl, below_drewN hwr nq⟩
        · have hkj : k = j := by omega
          have i4 : ¬ (k : Int) < (j : Int) := by omega
          have O1 := Lib.hid (H.out.below hwr (Nat.le_refl _))
          have HA : Hid (((distF n (xs.take j)).any fun z => z.tmod n == x.tmod n) = ((xs.take k).any fun z => z.tmod n == x.tmod n)) := by show _ = _; rw [distF_any, hkj]
          clear hkj
          cases hany : (xs.take k).any fun z => z.tmod n == x.tmod n
          · go_wp2_with (at_builtin; refine wpList_app rfl _ _ rfl w.heap.size _ _ [x] rfl (O1.out.below ((Below.refl _ _).alloc (Nat.le_refl _) (.cells #[.int .i64 x] 3)) (Nat.le_refl _)) (some ⟨wr.heap.size, 0, none⟩) 1 1 rfl (irow1S _ _ _) (fun h => by cases h) ?c1 ?c2 ?_)
            case c1 => omega
            case c2 => have := hw2.size; simp; omega
            intro v' w2 hO2 hb2
            have O2 := Lib.hid hO2
            clear hO2
            go_wp2_with fail
            go_roundg (go - 1)
            case measure => omega
            case rel =>
              go_light
              refine ⟨j + 1, by omega, by omega, by go_num, (hw2.alloc hw2.size _).trans hb2, ?_⟩
              rw [HE.out, distS, HA.out, hany]
              exact O2.out
          · go_wp2_with fail
            go_roundg (go - 1)
            case measure => omega
            case rel =>
              go_light
              refine ⟨j + 1, by omega, by omega, by go_num, hw2, ?_⟩
              rw [HE.out, distS, HA.out, hany]
              exact O1.out
    · have hfull : xs.take j = xs := List.take_of_length_le (by omega)
      rw [hfull] at H
      have i1 : ¬ (j : Int) < (xs.length : Int) := by omega
      clear hfull
      go_wp2_with fail
      go_light
      go_ret
      exact ⟨u5, rfl, H.out, hw⟩
end Go.Proofs.Ytpnlhkpibgngbaa

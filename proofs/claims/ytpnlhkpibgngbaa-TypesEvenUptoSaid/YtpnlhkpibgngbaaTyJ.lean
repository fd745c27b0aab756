/- The reference's Lies: what it returns, for every argument. -/
import Derived.Test.YtpnlhkpibgngbaaTyI
namespace Go.Proofs.Ytpnlhkpibgngbaa
open Go.RowKit

def rliesK (i j : Int) : Bool := (leavesF i).all fun x => (leavesF j).any fun y => y == x
def rliesF (a b : T3) : Bool := rliesK a.i b.i && ((b.n.toList.isEmpty || a.i == 0) || (a.n.toList == b.n.toList && a.i == b.i))

theorem all_step (p : Int → Bool) {xs : List Int} {x : Int} {j : Nat} (h : xs[j]? = some x) (hx : p x = false) : xs.all p = false := by
  rw [List.all_eq_false]
  exact ⟨x, List.mem_of_getElem? h, by simp [hx]⟩
theorem any_take (xs : List Int) (x y : Int) (k : Nat) (h : xs[k]? = some y) : (xs.take (k+1)).any (· == x) = ((xs.take k).any (· == x) || y == x) := by
  rw [List.take_add_one, h]
  simp

set_option maxHeartbeats 800000 in
theorem rlies_any (i : Int) (s : ByteArray) (o i' : Int) (s' : ByteArray) (o' : Int) (w : World) :
    Calls Try.prog 46 #[.agg #[.int .i64 i, .string s, .int .i64 o], .agg #[.int .i64 i', .string s', .int .i64 o']] w fun e w' =>
      e = .returned (.bool (rliesF ⟨i, s, o⟩ ⟨i', s', o'⟩)) ∧ Below w.heap.size w w' := by
  go_enter Try.func46, Try.ntmps46
  go_wp2_with fail
  refine (leaves_any _ _).mono ?_
  rintro e w1 ⟨a1, n1, c1, rfl, hL, hb1, -, -⟩
  obtain ⟨hc1, hf1⟩ := bcell hb1
  have hz1 : w.heap.size < w1.heap.size ∧ w.heap.size + 1 < w1.heap.size := by (have := hb1.size; simp at this; omega)
  obtain ⟨lz1, lz1'⟩ := hz1
  go_wp2_with fail
  refine (leaves_any _ _).mono ?_
  rintro e w2 ⟨a2, n2, c2, rfl, hM, hb2, -, -⟩
  obtain ⟨hc2, hf2⟩ := bcell hb2
  have hz2 : w.heap.size < w2.heap.size ∧ w.heap.size + 1 < w2.heap.size := by (have := hb2.size; omega)
  obtain ⟨lz2, lz2'⟩ := hz2
  have HL := Lib.hid (hL.below hb2 (Nat.le_refl _))
  have HM := Lib.hid hM
  have l1 := hL.2.1
  have l2 := hM.2.1
  clear hL hM
  have hw2 : Below w.heap.size w w2 := ((((Below.refl w.heap.size w).alloc (Nat.le_refl _) _).alloc (by simp) _).trans (hb1.mono (by simp; omega))).trans (hb2.mono (by omega))
  have d0 : w2.cell? ⟨w.heap.size, 0, none⟩ = some (.int .i64 i) := by simp [hc2, hc1, lz1, go_sem]
  have d1 : w2.cell? ⟨w.heap.size, 1, none⟩ = some (.string s) := by simp [hc2, hc1, lz1, go_sem]
  have d2 : w2.cell? ⟨w.heap.size + 1, 0, none⟩ = some (.int .i64 i') := by simp [hc2, hc1, lz1', go_sem]
  have d3 : w2.cell? ⟨w.heap.size + 1, 1, none⟩ = some (.string s') := by simp [hc2, hc1, lz1', go_sem]
  clear hc1 hc2 hf1 hf2
  go_wp2_with fail
  go_loopg [7] (n1 + 1) (fun m jj wr => ∃ j : Nat, j ≤ n1 ∧ m + j = n1 + 1 ∧ jj = .int .i64 j ∧ Below w2.heap.size w2 wr ∧ ((leavesF i).take j).all (fun x => (leavesF i').any fun y => y == x) = true)
  case atStart => exact ⟨0, Nat.zero_le _, by omega, rfl, Below.refl _ _, rfl⟩
  case round =>
    obtain ⟨j, hj, hmj, rfl, hw, hall⟩ := hrel
    have HALL := Lib.hid hall
    clear hall
    have g0 := hw.cell (p := ⟨w.heap.size, 0, none⟩) lz2
    have g1 := hw.cell (p := ⟨w.heap.size, 1, none⟩) lz2
    have g2 := hw.cell (p := ⟨w.heap.size + 1, 0, none⟩) lz2'
    have g3 := hw.cell (p := ⟨w.heap.size + 1, 1, none⟩) lz2'
    rw [d0] at g0
    rw [d1] at g1
    rw [d2] at g2
    rw [d3] at g3
    by_cases hlt : j < n1
    · have hxj : j < (leavesF i).length := by have := HL.out.1; omega
      obtain ⟨x, hxx⟩ : ∃ x, (leavesF i)[j]? = some x := ⟨(leavesF i)[j], by simp [hxj]⟩
      obtain ⟨b1, q1, rfl, lb1, hx1⟩ := HL.out.2.2 (by omega)
      have y1 := hx1 j x hxx
      have HXX := Lib.hid hxx
      clear hx1 hxx
      go_wp2_with fail
      obtain ⟨wo, rfl⟩ : ∃ wo : World, wo = wr := ⟨_, rfl⟩
      obtain ⟨go, hgo⟩ : ∃ go, go = gk := ⟨_, rfl⟩
      subst hgo
      go_loopg [8, 9] (n2 + 1) (fun m tt kk wr => ∃ k : Nat, k ≤ n2 ∧ m + k = n2 + 1 ∧ kk = .int .i64 k ∧ tt = .bool (((leavesF i').take k).any fun y => y == x) ∧ Below w2.heap.size w2 wr)
      case atStart => exact ⟨0, Nat.zero_le _, by omega, rfl, by simp, hw⟩
      case round =>
        obtain ⟨k, hk, hmk, rfl, rfl, hwr⟩ := hrel
        by_cases hlk : k < n2
        · have hxk : k < (leavesF i').length := by have := HM.out.1; omega
          obtain ⟨y, hyy⟩ : ∃ y, (leavesF i')[k]? = some y := ⟨(leavesF i')[k], by simp [hxk]⟩
          obtain ⟨b2, q2, rfl, lb2, hx2⟩ := HM.out.2.2 (by omega)
          have y2 := hx2 k y hyy
          have HT := Lib.hid (any_take _ x y k hyy)
          have z1 := hwr.cell (p := ⟨b1, q1 + j, none⟩) lb1
          have z2 := hwr.cell (p := ⟨b2, q2 + k, none⟩) lb2
          rw [y1] at z1
          rw [y2] at z2
          clear hx2 hyy y2
          have i0 : (0 : Int) ≤ (k : Int) := Int.natCast_nonneg _
          have i1 : (k : Int) < (n2 : Int) := by omega
          have i2 : (0 : Int) ≤ (j : Int) := Int.natCast_nonneg _
          have i3 : (j : Int) < (n1 : Int) := by omega
          cases hany : ((leavesF i').take k).any fun y => y == x <;> cases hyx : y == x
          all_goals go_wp2_with fail
          all_goals go_quiet (fail)
          all_goals go_wp2_with fail
          all_goals
            go_roundg (gk - 1)
            case measure => omega
            case rel =>
              go_light
              exact ⟨k + 1, by omega, by omega, by go_num, by rw [HT.out, hany, hyx]; rfl, below_drewN hwr nq⟩
        · have hfull : (leavesF i').take k = leavesF i' := List.take_of_length_le (by have := HM.out.1; omega)
          have HF := Lib.hid hfull
          clear hfull
          cases hany : ((leavesF i').take k).any fun y => y == x
          · go_wp2_with fail
            go_light
            go_ret
            refine ⟨?_, (hw2.trans (hwr.mono (by omega)))⟩
            have h1 := all_step (fun x => (leavesF i').any fun y => y == x) HXX.out (by rw [← HF.out]; exact hany)
            simp [rliesF, rliesK, h1]
          · go_wp2_with fail
            go_roundg (go - 1)
            case measure => omega
            case rel =>
              go_light
              refine ⟨j + 1, by omega, by omega, by go_num, hwr, ?_⟩
              rw [List.take_add_one, HXX.out, List.all_append, HALL.out, ← HF.out]
              simpa using hany
    · have hfull : (leavesF i).take j = leavesF i := List.take_of_length_le (by have := HL.out.1; omega)
      have hK : rliesK i i' = true := by rw [← HALL.out, hfull]; rfl
      have hF : rliesF ⟨i, s, o⟩ ⟨i', s', o'⟩ = ((s'.toList.isEmpty || i == 0) || (s.toList == s'.toList && i == i')) := by simp only [rliesF, hK, Bool.true_and]
      have HFn := Lib.hid hF
      clear hF hK hfull HALL
      cases e1 : s'.toList.isEmpty <;> cases e2 : i == 0 <;> cases e3 : s.toList == s'.toList <;> cases e4 : i == i'
      all_goals go_wp2_with fail
      all_goals go_light
      all_goals go_ret
      all_goals exact ⟨by rw [HFn.out]; simp [e1, e2, e3, e4], hw2.trans (hw.mono (by omega))⟩
end Go.Proofs.Ytpnlhkpibgngbaa

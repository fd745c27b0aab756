/- The library's swapRange and rotate at ints: what they make of a row. -/
import Derived.Test.YtpnlhkpibgngbaaBox
import Derived.Test.YtpnlhkpibgngbaaStQ
import Derived.Sort.WalkC
import Derived.Deep.LoopGhost
import Derived.Deep.QuietTactic
import Derived.BigQuiet
import Derived.BigRegion
set_option linter.unusedSimpArgs false
set_option linter.unusedVariables false
namespace Go.Proofs.Ytpnlhkpibgngbaa
open Go.RowKit Go.Sort Go.Proofs

/-- A world in which the row holds d, the rest as in w, q draws on. -/
def rw1 (w : World) (blk : Nat) (d : Array Int) (q : Nat) : World := (putRow (Value.int .i64) w blk 0 d).drewN q
/-- The cell at j of such a world. -/
theorem rw1_cell {w : World} {blk : Nat} {d0 d : Array Int} (h : Holds (Value.int .i64) w blk 0 d0) (hs : d.size = d0.size) (q j : Nat) (hj : j < d.size) :
    (rw1 w blk d q).cell? ⟨blk, j, none⟩ = some (.int .i64 d[j]!) ∧ (rw1 w blk d q).frozen? ⟨blk, j, none⟩ = false := by
  have := holds_putRow (Value.int .i64) w blk 0 d0 d h hs j hj
  rw [Nat.zero_add] at this
  exact this
theorem rw1_swap (w : World) (blk : Nat) (d : Array Int) (q i j : Nat) (hi : i < d.size) (hj : j < d.size) {x y : Int} (hx : d[j]! = x) (hy : d[i]! = y) :
    (((rw1 w blk d q).setCell ⟨blk, i, none⟩ (.int .i64 x)).setCell ⟨blk, j, none⟩ (.int .i64 y)).drew = rw1 w blk (swp d i j) (q + 1) := by
  subst hx hy
  have := swap_worldC (Value.int .i64) w blk 0 d q i j hi hj
  rw [Nat.zero_add, Nat.zero_add] at this
  exact this

theorem swI_zero (a b t : Nat) : swI a b 0 t = t := by
  unfold swI
  repeat' split
  all_goals omega
set_option maxHeartbeats 4000000 in
set_option maxRecDepth 1000000 in
theorem swapr_any (blk cap a b n : Nat) (F : Value) (d : Array Int) (w : World) (hH : Holds (Value.int .i64) w blk 0 d) (hab : a + n ≤ b) (hb : b + n ≤ d.size) (hsz : d.size ≤ 1000000) :
    Calls Try.prog 69 #[.slice (some ⟨blk, 0, none⟩) d.size cap, .int .i64 a, .int .i64 b, .int .i64 n, F] w fun e w' =>
      e = .returned (.tuple #[]) ∧ ∃ q d', w' = rw1 w blk d' q ∧ d'.size = d.size ∧ ∀ t, d'[t]! = d[swI a b n t]! := by
  have HH : Hid (Holds (Value.int .i64) w blk 0 d) := hH
  have HS : Hid (w = rw1 w blk d 0) := (putRow_self (Value.int .i64) w blk 0 d hH).symm
  clear hH
  go_enter Try.func69, Try.ntmps69
  go_wp2
  go_loopg [10] n (fun g v wr => ∃ (k q : Nat) (dk : Array Int), v = .int .i64 k ∧ k ≤ n ∧ g + k = n ∧ dk.size = d.size ∧ Hid (wr = rw1 w blk dk q) ∧ Hid (∀ t, dk[t]! = d[swI a b k t]!))
  case atStart => exact ⟨0, 0, d, rfl, Nat.zero_le _, rfl, rfl, HS.out, fun t => by rw [swI_zero]⟩
  case round =>
    obtain ⟨k, q, dk, rfl, hk, hgk, hds, HW, HI⟩ := hrel
    by_cases hlt : k < n
    · have hltz : (k : Int) < (n : Int) := by omega
      obtain ⟨xa, hxa⟩ : ∃ x, dk[a + k]! = x := ⟨_, rfl⟩
      obtain ⟨xb, hxb⟩ : ∃ x, dk[b + k]! = x := ⟨_, rfl⟩
      obtain ⟨ca, fa⟩ := rw1_cell HH.out hds q (a + k) (by omega)
      obtain ⟨cb, fb⟩ := rw1_cell HH.out hds q (b + k) (by omega)
      rw [← HW.out] at ca fa cb fb
      rw [hxa] at ca
      rw [hxb] at cb
      have HXA : Hid (dk[a + k]! = xa) := hxa
      have HXB : Hid (dk[b + k]! = xb) := hxb
      clear hxa hxb
      obtain ⟨pa, hpa⟩ : ∃ p, p = a + k := ⟨_, rfl⟩
      obtain ⟨pb, hpb⟩ : ∃ p, p = b + k := ⟨_, rfl⟩
      rw [← hpa] at ca fa
      rw [← hpb] at cb fb
      have ea : (a : Int) + (k : Int) = (pa : Int) := by omega
      have eb : (b : Int) + (k : Int) = (pb : Int) := by omega
      have za : (pa : Int) < (d.size : Int) := by omega
      have zb : (pb : Int) < (d.size : Int) := by omega
      have PA : Hid (pa = a + k) := hpa
      have PB : Hid (pb = b + k) := hpb
      have hne : pa ≠ pb := by omega
      clear hpa hpb
      go_wp2_with fail
      go_big_region
      all_goals go_wp2
      go_roundg (gk - 1)
      case measure => omega
      case rel =>
        refine ⟨k + 1, q + 1, swp dk (a + k) (b + k), by go_num, by omega, by omega, by rw [size_swp]; exact hds, (show Hid _ from ?_), fun t => swI_next a b k t (by omega) d (by omega) dk hds HI.out⟩
        show _ = _
        rw [PA.out, PB.out, HW.out]
        exact rw1_swap w blk dk q (a + k) (b + k) (by omega) (by omega) HXB.out HXA.out
    · have hltz : ¬ (k : Int) < (n : Int) := by omega
      have hkn : k = n := by omega
      go_wp2
      go_end0
      exact ⟨rfl, q, dk, HW.out, hds, by rw [← hkn]; exact HI.out⟩

theorem rw1_rw1 (w : World) (blk : Nat) (d d' : Array Int) (q q' : Nat) (h : d'.size = d.size) : rw1 (rw1 w blk d q) blk d' q' = rw1 w blk d' (q + q') := by
  have e : putRow (Value.int .i64) ((putRow (Value.int .i64) w blk 0 d).drewN q) blk 0 d' = (putRow (Value.int .i64) (putRow (Value.int .i64) w blk 0 d) blk 0 d').drewN q := rfl
  unfold rw1
  rw [e, putRow_putRow _ _ _ _ _ _ h, World.drewN_drewN]
theorem rw1_holds {w : World} {blk : Nat} {d0 d : Array Int} (h : Holds (Value.int .i64) w blk 0 d0) (hs : d.size = d0.size) (q : Nat) : Holds (Value.int .i64) (rw1 w blk d q) blk 0 d := holds_putRow (Value.int .i64) w blk 0 d0 d h hs

set_option maxHeartbeats 4000000 in
set_option maxRecDepth 1000000 in
theorem rot_any (blk cap a m b : Nat) (F : Value) (d : Array Int) (w : World) (hH : Holds (Value.int .i64) w blk 0 d) (ham : a < m) (hmb : m < b) (hb : b ≤ d.size) (hsz : d.size ≤ 1000000) :
    Calls Try.prog 68 #[.slice (some ⟨blk, 0, none⟩) d.size cap, .int .i64 a, .int .i64 m, .int .i64 b, F] w fun e w' =>
      e = .returned (.tuple #[]) ∧ ∃ q d', w' = rw1 w blk d' q ∧ d'.size = d.size ∧ ∀ t, d'[t]! = d[rotI a m b t]! := by
  have HH : Hid (Holds (Value.int .i64) w blk 0 d) := hH
  have HS : Hid (w = rw1 w blk d 0) := (putRow_self (Value.int .i64) w blk 0 d hH).symm
  clear hH
  have e1 : (m : Int) - (a : Int) = ((m - a : Nat) : Int) := by omega
  have e2 : (b : Int) - (m : Int) = ((b - m : Nat) : Int) := by omega
  go_enter Try.func68, Try.ntmps68
  go_wp2_with fail
  go_loopg [10, 11] (m - a + (b - m)) (fun g vi vj wr => ∃ (i j q : Nat) (dk : Array Int), vi = .int .i64 i ∧ vj = .int .i64 j ∧ 0 < i ∧ 0 < j ∧ i ≤ m ∧ m + j ≤ d.size ∧ i + j ≤ g ∧ dk.size = d.size ∧ Hid (wr = rw1 w blk dk q) ∧ Hid (∀ t, dk[rotI (m - i) m (m + j) t]! = d[rotI a m b t]!))
  case atStart => exact ⟨m - a, b - m, 0, d, by first | rfl | (congr 1; omega), by first | rfl | (congr 1; omega), by omega, by omega, by omega, by omega, by omega, rfl, HS.out, fun t => by rw [show m - (m - a) = a by omega, show m + (b - m) = b by omega]⟩
  case round =>
    obtain ⟨i, j, q, dk, rfl, rfl, hi0, hj0, him, hmj, hg, hds, HW, HI⟩ := hrel
    clear e1 e2
    have HHk : Hid (Holds (Value.int .i64) wr blk 0 dk) := by rw [HW.out]; exact rw1_holds HH.out hds q
    have hsz' : dk.size ≤ 1000000 := by omega
    have f1 : ((m - i : Nat) : Int) = (m : Int) - (i : Int) := by omega
    by_cases hij : i = j
    · subst hij
      have z1 : ((i : Int) != (i : Int)) = false := by simp
      have C := Lib.hid (swapr_any blk cap (m - i) m i F dk wr HHk.out (by omega) (by omega) hsz')
      rw [f1, hds] at C
      go_wp2_with fail
      refine C.out.mono ?_
      rintro e w1 ⟨rfl, q1, d1, hw1, hs1, h1⟩
      have HW1 := Lib.hid hw1
      clear hw1
      go_wp2_with fail
      go_end0
      refine ⟨rfl, q + q1, d1, ?_, by omega, fun t => ?_⟩
      · rw [HW1.out, HW.out, rw1_rw1 _ _ _ _ _ _ (hs1.trans hds.symm)]
      · rw [h1, rot_end m i t him]; exact HI.out t
    · have z1 : ((i : Int) != (j : Int)) = true := by simp; omega
      by_cases hlt : j < i
      · have z2 : (j : Int) < (i : Int) := by omega
        have z3 : (i : Int) - (j : Int) = ((i - j : Nat) : Int) := by omega
        have C := Lib.hid (swapr_any blk cap (m - i) m j F dk wr HHk.out (by omega) (by omega) hsz')
        rw [f1, hds] at C
        go_wp2_with fail
        refine C.out.mono ?_
        rintro e w1 ⟨rfl, q1, d1, hw1, hs1, h1⟩
        have HW1 := Lib.hid hw1
        have H1 := Lib.hid h1
        clear hw1 h1
        go_wp2_with fail
        go_roundg (gk - j)
        case measure => omega
        case rel =>
          refine ⟨i - j, j, q + q1, d1, by first | rfl | (congr 1; omega), rfl, by omega, hj0, by omega, hmj, by omega, by omega, (show Hid _ from ?_), (show Hid _ from fun t => ?_)⟩
          · show _ = _
            rw [HW1.out, HW.out, rw1_rw1 _ _ _ _ _ _ (hs1.trans hds.symm)]
          · rw [H1.out, rot_left m i j t him hlt]; exact HI.out t
      · have z2 : ¬ (j : Int) < (i : Int) := by omega
        have z3 : (j : Int) - (i : Int) = ((j - i : Nat) : Int) := by omega
        have f2 : ((m + j - i : Nat) : Int) = (m : Int) + (j : Int) - (i : Int) := by omega
        have C := Lib.hid (swapr_any blk cap (m - i) (m + j - i) i F dk wr HHk.out (by omega) (by omega) hsz')
        rw [f1, f2, hds] at C
        go_wp2_with fail
        refine C.out.mono ?_
        rintro e w1 ⟨rfl, q1, d1, hw1, hs1, h1⟩
        have HW1 := Lib.hid hw1
        have H1 := Lib.hid h1
        clear hw1 h1
        go_wp2_with fail
        go_roundg (gk - i)
        case measure => omega
        case rel =>
          refine ⟨i, j - i, q + q1, d1, rfl, by first | rfl | (congr 1; omega), hi0, by omega, him, by omega, by omega, by omega, (show Hid _ from ?_), (show Hid _ from fun t => ?_)⟩
          · show _ = _
            rw [HW1.out, HW.out, rw1_rw1 _ _ _ _ _ _ (hs1.trans hds.symm)]
          · rw [H1.out, rot_right m i j t him (by omega)]; exact HI.out t
end Go.Proofs.Ytpnlhkpibgngbaa

/- The document's Same at two rows that are the same; numeric. -/
import Derived.Test.YtfagfkfcokmclaaGreatDoorZLbF
import Derived.BigQuiet
set_option linter.unusedSimpArgs false
set_option linter.unusedVariables false
set_option linter.constructorNameAsVariable false
namespace Go.Proofs.YtfagfkfcokmclaaGreatDoor
open Go.RowKit Go.Sort

set_option maxRecDepth 100000 in
set_option maxHeartbeats 800000 in
theorem same_eq (xs : List At) (a1 : Option Addr) (c1 : Nat) (a2 : Option Addr) (c2 : Nat) (w : World) (h1 : ItRow w a1 xs) (h2 : ItRow w a2 xs) (hl : xs.length ≤ 100000000) :
    Calls Tryz.prog 10 #[.slice a1 xs.length c1, .slice a2 xs.length c2] w fun e w' => e = .returned (.bool true) ∧ Below w.heap.size w w' := by
  have H1 := Lib.hid h1
  have H2 := Lib.hid h2
  clear h1 h2
  go_enter Tryz.func10, Tryz.ntmps10
  go_wp2_with fail
  go_loopg [5] (xs.length + 1) (fun m ii wr => ∃ j : Nat, j ≤ xs.length ∧ m + j = xs.length + 1 ∧ ii = .int .i64 (j : Int) ∧ Below w.heap.size w wr)
  case atStart => exact ⟨0, by omega, by omega, rfl, Below.refl _ _⟩
  case round =>
    obtain ⟨j, hj, hmj, rfl, hwr⟩ := hrel
    have hj0 : (0 : Int) ≤ (j : Int) := Int.natCast_nonneg _
    by_cases hlt : j < xs.length
    · have i0 : decide ((j : Int) < (xs.length : Int)) = true := by simp; omega
      have i6 : (j : Int) < (xs.length : Int) := by omega
      obtain ⟨x, hjx⟩ : ∃ x, xs[j]? = some x := ⟨_, List.getElem?_eq_getElem hlt⟩
      rcases H1.out with h0 | ⟨b, o, rfl, hb, hc⟩
      · rw [h0] at hlt; simp at hlt
      rcases H2.out with h0 | ⟨b', o', rfl, hb', hc'⟩
      · rw [h0] at hlt; simp at hlt
      obtain ⟨u0, u1, u2, u3, u4, u5⟩ := hc j x hjx
      obtain ⟨v0, v1, v2, v3, v4, v5⟩ := hc' j x hjx
      replace u0 := (hwr.cell (p := ⟨b, o + j * 6, none⟩) hb).trans u0
      replace u1 := (hwr.cell (p := ⟨b, o + j * 6 + 1, none⟩) hb).trans u1
      replace u2 := (hwr.cell (p := ⟨b, o + j * 6 + 2, none⟩) hb).trans u2
      replace u3 := (hwr.cell (p := ⟨b, o + j * 6 + 3, none⟩) hb).trans u3
      replace u4 := (hwr.cell (p := ⟨b, o + j * 6 + 4, none⟩) hb).trans u4
      replace u5 := (hwr.cell (p := ⟨b, o + j * 6 + 5, none⟩) hb).trans u5
      replace v0 := (hwr.cell (p := ⟨b', o' + j * 6, none⟩) hb').trans v0
      replace v1 := (hwr.cell (p := ⟨b', o' + j * 6 + 1, none⟩) hb').trans v1
      replace v2 := (hwr.cell (p := ⟨b', o' + j * 6 + 2, none⟩) hb').trans v2
      replace v3 := (hwr.cell (p := ⟨b', o' + j * 6 + 3, none⟩) hb').trans v3
      replace v4 := (hwr.cell (p := ⟨b', o' + j * 6 + 4, none⟩) hb').trans v4
      replace v5 := (hwr.cell (p := ⟨b', o' + j * 6 + 5, none⟩) hb').trans v5
      clear hc hc' hjx
      go_wp2_with fail
      go_quiet (fail)
      have hwd := fun q => below_drewN hwr q
      go_wp2_with fail
      go_roundg (gk - 1)
      case measure => omega
      case rel => exact ⟨j + 1, by omega, by omega, by go_num, hwd _⟩
    · have i0 : decide ((j : Int) < (xs.length : Int)) = false := by simp; omega
      go_wp2_with fail
      go_returns
      exact ⟨rfl, hwr⟩
theorem numeric_num (k n s : Int) (t : ByteArray) (b : Bool) (hk : (k == 1 || k == 2) = true) (w : World) : Calls Tryz.prog 84 #[.agg #[.int .i64 k, .int .i64 n, .int .i64 s, .string t, .bool b]] w fun e w' => e = .returned (.agg #[.int .i64 k, .int .i64 n, .int .i64 s, .string t, .bool b]) ∧ Below w.heap.size w w' := by
  have e5 : (k == 5) = false := by
    cases e1 : (k == 1)
    · rw [e1] at hk
      have : k = 2 := by simpa using hk
      subst this
      rfl
    · have : k = 1 := by simpa using e1
      subst this
      rfl
  have CN := fun w' => numeric_any k n s t b w'
  rw [hk] at CN
  have hb0 : Below w.heap.size w ((w.alloc (.cells #[.int .i64 k, .int .i64 n, .int .i64 s, .string t, .bool b] 24)).alloc (.cells #[.int .i64 0, .int .i64 0, .int .i64 0, .string ⟨#[]⟩, .bool false] 24)) := ((Below.refl _ _).alloc (Nat.le_refl _) _).alloc (by simp) _
  have B0 : Blk ((w.alloc (.cells #[.int .i64 k, .int .i64 n, .int .i64 s, .string t, .bool b] 24)).alloc (.cells #[.int .i64 0, .int .i64 0, .int .i64 0, .string ⟨#[]⟩, .bool false] 24)) w.heap.size #[.int .i64 k, .int .i64 n, .int .i64 s, .string t, .bool b] 24 := (Blk.new _ _ _).alloc _
  have B1 : Blk ((w.alloc (.cells #[.int .i64 k, .int .i64 n, .int .i64 s, .string t, .bool b] 24)).alloc (.cells #[.int .i64 0, .int .i64 0, .int .i64 0, .string ⟨#[]⟩, .bool false] 24)) (w.heap.size + 1) #[.int .i64 0, .int .i64 0, .int .i64 0, .string ⟨#[]⟩, .bool false] 24 := by
    have := Blk.new (w.alloc (.cells #[.int .i64 k, .int .i64 n, .int .i64 s, .string t, .bool b] 24)) #[.int .i64 0, .int .i64 0, .int .i64 0, .string ⟨#[]⟩, .bool false] 24
    simpa using this
  have CN2 := Lib.hid CN
  clear CN hk
  go_enter Tryz.func84, Tryz.ntmps84
  go_wp2_with fail
  generalize (w.alloc (.cells #[.int .i64 k, .int .i64 n, .int .i64 s, .string t, .bool b] 24)).alloc (.cells #[.int .i64 0, .int .i64 0, .int .i64 0, .string ⟨#[]⟩, .bool false] 24) = W at *
  have k0 := B0.lt
  have k1 := B1.lt
  with_reducible refine (CN2.out _).mono ?_
  rintro e w1 ⟨rfl, hb1⟩
  have B2 : Blk w1 (w.heap.size + 1) #[.int .i64 0, .int .i64 0, .int .i64 0, .string ⟨#[]⟩, .bool false] 24 := Blk.below B1 hb1 k1
  have B3 : Blk w1 w.heap.size #[.int .i64 k, .int .i64 n, .int .i64 s, .string t, .bool b] 24 := Blk.below B0 hb1 k0
  obtain ⟨⟨a0, a1, a2, a3, a4⟩, ⟨f0, f1, f2, f3, f4⟩⟩ := B2.five
  obtain ⟨⟨y0, y1, y2, y3, y4⟩, -⟩ := B3.five
  have k2 := B2.lt
  have k3 := B3.lt
  have hw1 : Below w.heap.size w w1 := hb0.trans (hb1.mono hb0.size)
  have B7 := ((((Blk.set B2 0 (.int .i64 k)).set 1 (.int .i64 n)).set 2 (.int .i64 s)).set 3 (.string t)).set 4 (.bool b)
  have hw7 : Below w.heap.size w (((((w1.setCell ⟨w.heap.size + 1, 0, none⟩ (.int .i64 k)).setCell ⟨w.heap.size + 1, 1, none⟩ (.int .i64 n)).setCell ⟨w.heap.size + 1, 2, none⟩ (.int .i64 s)).setCell ⟨w.heap.size + 1, 3, none⟩ (.string t)).setCell ⟨w.heap.size + 1, 4, none⟩ (.bool b)) := ((((hw1.setCell (by simp) _).setCell (by simp) _).setCell (by simp) _).setCell (by simp) _).setCell (by simp) _
  have q0 := B7.cell 0
  have q1 := B7.cell 1
  have q2 := B7.cell 2
  have q3 := B7.cell 3
  have q4 := B7.cell 4
  have HQ := Lib.hid (And.intro q0 (And.intro q1 (And.intro q2 (And.intro q3 (And.intro q4 hw7)))))
  clear q0 q1 q2 q3 q4 hw7 B7 B2 B3 B1 B0 hb1 hb0 CN2
  go_wp2_with fail
  obtain ⟨q0, q1, q2, q3, q4, hw7⟩ := HQ.out
  generalize (((((w1.setCell ⟨w.heap.size + 1, 0, none⟩ (.int .i64 k)).setCell ⟨w.heap.size + 1, 1, none⟩ (.int .i64 n)).setCell ⟨w.heap.size + 1, 2, none⟩ (.int .i64 s)).setCell ⟨w.heap.size + 1, 3, none⟩ (.string t)).setCell ⟨w.heap.size + 1, 4, none⟩ (.bool b)) = w7 at *
  simp at q0 q1 q2 q3 q4
  refine bodyPost_ret (v := .agg #[.int .i64 k, .int .i64 n, .int .i64 s, .string t, .bool b]) ?_ rfl ⟨rfl, hw7⟩
  simp [results, Tryz.results84, go_sem, q0, q1, q2, q3, q4]
end Go.Proofs.YtfagfkfcokmclaaGreatDoor

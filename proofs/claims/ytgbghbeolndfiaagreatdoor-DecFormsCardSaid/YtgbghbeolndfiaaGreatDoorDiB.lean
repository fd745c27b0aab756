/- The document's numbers: an int's digits. -/
import Derived.Test.YtgbghbeolndfiaaGreatDoorDiA
import Derived.Test.YtgbghbeolndfiaaGreatDoorDeF
import Derived.Test.YtgbghbeolndfiaaGreatDoorWaB
set_option linter.unusedSimpArgs false
set_option linter.unusedVariables false
namespace Go.Proofs.YtgbghbeolndfiaaGreatDoor
open Go.RowKit

theorem digs_len (n : Nat) (h : n < 10000000000000000000) : (digs n).length ≤ 19 := by
  obtain ⟨h1, h2, h3, -⟩ := digs_spec n
  refine len_le h2 h3 19 ?_
  rw [h1]
  omega
set_option maxRecDepth 100000 in
set_option maxHeartbeats 2000000 in
theorem of_any (n : Int) (h0 : -9223372036854775808 ≤ n) (h1 : n ≤ 9223372036854775807) (w : World) : Calls Tryz.prog 15 #[.int .i64 n] w fun e w' =>
    ∃ v, e = .returned (.agg #[.bool (decide (n < 0)), v]) ∧ ORow w' w.heap.size v (digs n.natAbs) ∧ Below w.heap.size w w' := by
  go_enter Tryz.func15, Tryz.ntmps15
  go_wp2_with fail
  go_loopg [0] (n.natAbs) (fun m xv wr => ∃ (x : Int) (xs : List Int) (v : Value), m = x.natAbs ∧ xv = .int .i64 x ∧ x.natAbs ≤ n.natAbs ∧ -9223372036854775808 ≤ x ∧ x ≤ 9223372036854775807 ∧ Below w.heap.size w wr ∧ Blk wr w.heap.size #[.bool false, .slice none 0 0] 37 ∧ Blk wr (w.heap.size + 1) #[.bool (decide (n < 0)), v] 37 ∧ ORow wr (w.heap.size + 2) v xs ∧ digs n.natAbs = xs ++ digs x.natAbs)
  case atStart =>
    refine ⟨n, [], _, rfl, rfl, Nat.le_refl _, h0, h1, ?_, ?_, ?_, ORow.nil _ _, rfl⟩
    · go_grown
    · exact Blk.alloc (Blk.here rfl rfl) _
    · exact Blk.here rfl (by simp)
  case round =>
    obtain ⟨x, xs, v, hm, rfl, hx, hx0, hx1, hw, E0, E1, hO, hd⟩ := hrel
    have k0 : w.heap.size < wr.heap.size := E0.lt
    have k1 : w.heap.size + 1 < wr.heap.size := E1.lt
    obtain ⟨c00, c01, f00, f01⟩ := E0.two
    obtain ⟨c10, c11, f10, f11⟩ := E1.two
    have hxl : xs.length ≤ 19 := by
      have := digs_len n.natAbs (by omega)
      rw [hd, List.length_append] at this
      omega
    cases e0 : (x == 0)
    · have hx' : x.natAbs ≠ 0 := by simp at e0; omega
      have hq1 : (x.tdiv 10).natAbs = x.natAbs / 10 := by rw [Int.natAbs_tdiv]; rfl
      have hr1 : (x.tmod 10).natAbs = x.natAbs % 10 := by rw [Int.natAbs_tmod]; rfl
      have hq : IntKind.i64.wrap (x.tdiv 10) = x.tdiv 10 := IntWalk.i64_in _ (by omega)
      have hr : IntKind.i64.wrap (x.tmod 10) = x.tmod 10 := IntWalk.i64_in _ (by omega)
      rw [digs_step hx', ← hq1, ← hr1] at hd
      have H := Lib.hid hO
      have HD := Lib.hid hd
      clear hO hd
      obtain ⟨y, hy, hyx, hy0, hy1⟩ : ∃ y, x.tdiv 10 = y ∧ y.natAbs < x.natAbs ∧ -9223372036854775808 ≤ y ∧ y ≤ 9223372036854775807 := ⟨_, rfl, by omega, by omega, by omega⟩
      obtain ⟨r, hr', d, hd'⟩ : ∃ r, x.tmod 10 = r ∧ ∃ d, ((x.tmod 10).natAbs : Int) = d := ⟨_, rfl, _, rfl⟩
      rw [hy] at hq HD
      rw [hd'] at HD
      rw [hr'] at hr hr1 hd'
      have hcs : (decide (r < 0) = false ∧ r = d) ∨ (decide (r < 0) = true ∧ IntKind.i64.wrap (-r) = d) := by
        rcases Int.lt_or_le r 0 with h | h
        · exact .inr ⟨by simpa using h, by rw [IntWalk.i64_in _ (by omega)]; omega⟩
        · exact .inl ⟨by simpa using h, by omega⟩
      clear hd' hr1 hq1
      rcases hcs with ⟨e1, rfl⟩ | ⟨e1, hd1⟩
      all_goals
        go_wp2_with (at_builtin; refine wpList_app rfl _ _ rfl (w.heap.size + 2) _ _ [_] rfl (H.out.below ((Below.refl _ _).alloc (Nat.le_refl _) (.cells #[.int .i64 _] 3)) (Nat.le_refl _)) (some ⟨wr.heap.size, 0, none⟩) 1 1 rfl (irow1 _ _ _) (fun h => by cases h) ?c1 ?c2 ?_)
        case c1 => simp; omega
        case c2 => have := hw.size; simp; omega
        intro v' w1 hO1 hb1
        obtain ⟨a', c', hv', hI⟩ := hO1.lit (by simp; omega)
        rw [List.length_append, List.length_singleton] at hv'
        subst hv'
        have F0 := (E0.alloc (.cells #[.int .i64 _] 3)).below hb1 (by omega)
        have F1 := (E1.alloc (.cells #[.int .i64 _] 3)).below hb1 (by omega)
        have hw1 : Below w.heap.size w w1 := (hw.alloc hw.size _).trans (hb1.mono (by omega))
        have l0 : w.heap.size < w1.heap.size := F0.lt
        have l1 : w.heap.size + 1 < w1.heap.size := F1.lt
        have H1 := Lib.hid hO1
        clear hO1 hI c00 c01 f00 f01 c10 c11 f10 f11 E0 E1 H hb1
        obtain ⟨c00, c01, f00, f01⟩ := F0.two
        obtain ⟨c10, c11, f10, f11⟩ := F1.two
        go_wp2_with fail
        go_roundg (y.natAbs)
        case measure => omega
        case rel =>
          refine ⟨y, _, _, rfl, rfl, by omega, hy0, hy1, ?_, ?_, ?_, H1.out.other (by simp) _, by rw [HD.out, List.append_assoc]; rfl⟩
          · go_grown
            all_goals first | exact hw1 | exact hw1.size | omega
          · exact F0.other (by simp) _
          · exact F1.set 1 _
    · have hx' : x = 0 := by simpa using e0
      subst hx'
      rw [show (0 : Int).natAbs = 0 from rfl, digs_zero, List.append_nil] at hd
      obtain ⟨a', c', rfl, hI⟩ := hO.lit (by omega)
      have H := Lib.hid hO
      have HD := Lib.hid hd
      clear hO hd hI
      go_wp2_with fail
      refine bodyPost_ret (v := .agg #[.bool (decide (n < 0)), .slice a' xs.length c']) (by simp [results, Tryz.results15, go_sem, c00, c01, f00, f01]) rfl ⟨_, rfl, ?_, ?_⟩
      · rw [HD.out]
        exact ((H.out.other (by simp) _).other (by simp) _).mono (by omega)
      · go_grown
        all_goals first | exact hw | exact hw.size | omega
end Go.Proofs.YtgbghbeolndfiaaGreatDoor

/- strings.Builder's copyCheck and WriteRune; char.Text. -/
import Derived.Test.YtfagfkfcokmclaaGreatDoorZLbU
import Derived.Test.YtfagfkfcokmclaaGreatDoorZShB
import Derived.Test.YtfagfkfcokmclaaGreatDoorZMgD
set_option linter.unusedSimpArgs false
set_option linter.unusedVariables false
set_option linter.constructorNameAsVariable false
namespace Go.Proofs.YtfagfkfcokmclaaGreatDoor
open Go.RowKit Go.Sort

theorem cxml_any (p : Int) (w : World) : Calls Tryz.prog 129 #[.int .i32 p] w fun e w' => e = .returned (.bool (xmlF p)) ∧ w = w' := by
  have hr : p < 9 ∨ p = 9 ∨ p = 10 ∨ (11 ≤ p ∧ p < 13) ∨ p = 13 ∨ (14 ≤ p ∧ p < 32) ∨ (32 ≤ p ∧ p ≤ 55295) ∨ (55296 ≤ p ∧ p ≤ 57343) ∨ (57344 ≤ p ∧ p ≤ 65533) ∨ (65534 ≤ p ∧ p ≤ 65535) ∨ (65536 ≤ p ∧ p ≤ 1114111) ∨ 1114112 ≤ p := by omega
  rcases hr with h | rfl | rfl | ⟨h, h'⟩ | rfl | ⟨h, h'⟩ | ⟨h, h'⟩ | ⟨h, h'⟩ | ⟨h, h'⟩ | ⟨h, h'⟩ | ⟨h, h'⟩ | h
  all_goals try (have b1 : (p == 9) = false := by rw [beq_eq_false_iff_ne]; omega)
  all_goals try (have b2 : (p == 10) = false := by rw [beq_eq_false_iff_ne]; omega)
  all_goals try (have b3 : (p == 13) = false := by rw [beq_eq_false_iff_ne]; omega)
  all_goals go_enter Tryz.func129, Tryz.ntmps129
  all_goals go_wp2
  all_goals go_light
  all_goals go_ret
  all_goals refine ⟨?_, rfl⟩
  all_goals unfold xmlF
  all_goals first
    | rfl
    | (refine congrArg (fun b => Ending.returned (Value.bool b)) (Eq.symm ?_); simp; omega)
    | (refine congrArg (fun b => Ending.returned (Value.bool b)) ?_; rw [Bool.eq_iff_iff]; simp; omega)
    | (exfalso; simp_all; done)
    | (exfalso; simp_all; omega)
    | trace_state
theorem sizeBu : (Tryz.prog.info? 154).map (·.size) = some 2 := by kernel_rfl
theorem liesBu : liesAt Tryz.prog Tryz.prog.depth 154 (2 / Tryz.prog.cellsOf 154) 0 154 1 = true := by kernel_rfl
set_option maxHeartbeats 1000000 in
set_option maxRecDepth 100000 in
theorem ccheck_used (b : Nat) (w : World) (h0 : w.cell? ⟨b, 0, none⟩ = some (.pointer (some ⟨b, 0, none⟩))) :
    Calls Tryz.prog 172 #[.pointer (some ⟨b, 0, none⟩)] w fun e w' => e = .returned (.tuple #[]) ∧ w' = w := by
  obtain ⟨j, hj, _⟩ := Option.map_eq_some_iff.1 sizeBu
  go_enter Tryz.func172, Tryz.ntmps172
  go_wp2
  rw [Lib.run_neq_ptr_same w _ Tryz.underlying151 hj]
  go_wp2
  go_end0
  exact ⟨rfl, rfl⟩
set_option maxHeartbeats 1000000 in
set_option maxRecDepth 100000 in
theorem ccheck_fresh (b : Nat) (w : World) (h0 : w.cell? ⟨b, 0, none⟩ = some (.pointer none)) (hsh : w.shape? b = some (154, 2)) (hfz : w.frozen? ⟨b, 0, none⟩ = false) :
    Calls Tryz.prog 172 #[.pointer (some ⟨b, 0, none⟩)] w fun e w' => e = .returned (.tuple #[]) ∧ w' = w.setCell ⟨b, 0, none⟩ (.pointer (some ⟨b, 0, none⟩)) := by
  obtain ⟨j, hj, hjs⟩ := Option.map_eq_some_iff.1 sizeBu
  go_enter Tryz.func172, Tryz.ntmps172
  go_wp2
  rw [Lib.run_to_unsafe w ⟨b, 0, none⟩ Tryz.underlying151 Tryz.underlying236 hj (by rw [hjs]; decide) hsh (Nat.zero_lt_succ 1)]
  simp only [Result.andThen]
  rw [Oper.upon_value]
  go_wp2
  rw [run_callFunc_extern Tryz.func208 (by kernel_rfl) (by kernel_rfl) (by kernel_rfl) (e := Extern.AbiNoEscape.same) (by kernel_rfl)]
  rw [Lib.run_noEscape]
  simp only [Result.andThen]
  rw [Oper.upon_value]
  go_wp2
  rw [Lib.run_from_unsafe w ⟨b, 0, none⟩ Tryz.underlying236 Tryz.underlying151 hj hsh liesBu]
  simp only [Result.andThen]
  rw [Oper.upon_value]
  go_wp2
  go_end0
  exact ⟨rfl, rfl⟩
theorem ccheck_any (B b : Nat) (bs : List Value) (w : World) (h : Lib.IsBuilder 154 5 B b bs w) :
    Calls Tryz.prog 172 #[.pointer (some ⟨b, 0, none⟩)] w fun e w' => e = .returned (.tuple #[]) ∧ (Lib.BuilderAt 154 5 B b (.pointer (some ⟨b, 0, none⟩)) bs w' ∧ Below B w w') := by
  rcases h with h | h
  · refine (ccheck_fresh b w h.cell0 h.shape h.frozen0).mono ?_
    rintro e w' ⟨rfl, rfl⟩
    exact ⟨rfl, h.used _, (Below.refl B w).setCell (p := ⟨b, 0, none⟩) h.1 _⟩
  · refine (ccheck_used b w h.cell0).mono ?_
    rintro e w' ⟨rfl, rfl⟩
    exact ⟨rfl, h, Below.refl B _⟩
set_option maxHeartbeats 1600000 in
set_option maxRecDepth 100000 in
theorem brune_any (B b : Nat) (bs : List Value) (r : Int) (hr0 : -2147483648 ≤ r) (hr1 : r ≤ 2147483647) (w : World) (h : Lib.IsBuilder 154 5 B b bs w) (hlen : bs.length + 4 ≤ 140737488355328) (hBw : B ≤ w.heap.size) :
    Calls Tryz.prog 130 #[.pointer (some ⟨b, 0, none⟩), .int .i32 r] w fun e w' => e = .returned (.tuple #[.int .i64 (Lib.runeCells r).length, .nilIface]) ∧ (Lib.BuilderAt 154 5 B b (.pointer (some ⟨b, 0, none⟩)) (bs ++ Lib.runeCells r) w' ∧ Below B w w') := by
  have hk4 := Lib.runeCells_le r
  have CK := Lib.hid (ccheck_any B b bs w h)
  clear h
  go_enter Tryz.func130, Tryz.ntmps130
  go_wp2_with fail
  with_reducible refine CK.out.mono ?_
  rintro e w1 ⟨rfl, h1, hb1⟩
  obtain ⟨hB, v, hbk, hown, hne⟩ := h1
  obtain ⟨ao, cap, rfl⟩ : ∃ ao cap, v = .slice ao bs.length cap := by
    rcases hown.2 with ⟨hv, h0⟩ | ⟨g, cap, cur, hv, _⟩
    · exact ⟨none, 0, by rw [hv, h0]⟩
    · exact ⟨_, _, hv⟩
  have c0 : w1.cell? ⟨b, 0, none⟩ = some (.pointer (some ⟨b, 0, none⟩)) := by rw [Lib.cell_of_heap hbk]; rfl
  have c1 : w1.cell? ⟨b, 1, none⟩ = some (.slice ao bs.length cap) := by rw [Lib.cell_of_heap hbk]; rfl
  have CR := Lib.hid (Tryz.utf8_AppendRune_plain B _ bs.length bs r hr0 hr1 _ hown hlen (by have := hb1.size; omega))
  go_wp2_with fail
  with_reducible refine CR.out.mono ?_
  rintro e w2 ⟨v', rfl, hown', o, hgrow⟩
  have hlt : b < w1.heap.size := by
    rcases Nat.lt_or_ge b w1.heap.size with h' | h'
    · exact h'
    · simp [Array.getElem?_eq_none h'] at hbk
  have hb2 : w2.heap[b]? = some (.cells #[.pointer (some ⟨b, 0, none⟩), .slice ao bs.length cap] 154 (0, 0)) := by
    rw [hgrow.block b (by simp; omega) (fun e => hne e.symm), Lib.alloc_old w1 _ b hlt]
    exact hbk
  have d0 : w2.cell? ⟨b, 0, none⟩ = some (.pointer (some ⟨b, 0, none⟩)) := by rw [Lib.cell_of_heap hb2]; rfl
  have d1 : w2.cell? ⟨b, 1, none⟩ = some (.slice ao bs.length cap) := by rw [Lib.cell_of_heap hb2]; rfl
  have f1 : w2.frozen? ⟨b, 1, none⟩ = false := Lib.frozen_of_heap hb2 1
  obtain ⟨g, cap', rfl⟩ : ∃ g cap', v' = .slice (some ⟨g, 0, none⟩) (bs.length + (Lib.runeCells r).length) cap' := by
    rcases hown'.2 with ⟨_, h0⟩ | ⟨g, cap', cur, hv, _⟩
    · omega
    · exact ⟨g, cap', hv⟩
  have hz1 := Lib.BuilderAt.put (T := 154) (e := 5) hB hb2 (bs' := bs ++ Lib.runeCells r) (by simpa using hown') (by decide)
  have hz2 : Below B w (w2.setCell ⟨b, 1, none⟩ (.slice (some ⟨g, 0, none⟩) (bs.length + (Lib.runeCells r).length) cap')) := ((hb1.alloc (by have := hb1.size; omega) _).grown hgrow (by have := hb1.size; simp; omega) (fun k hk => (hown.lt k hk).1)).setCell (p := ⟨b, 1, none⟩) hB _
  have HZ := Lib.hid (And.intro hz1 hz2)
  clear hz1 hz2 hown hown' hgrow hb2 hbk CK CR
  go_wp2
  go_ret2
  refine ⟨?_, HZ.out⟩
  have e : ((bs.length : Int) + ((Lib.runeCells r).length : Int) - (bs.length : Int)) = ((Lib.runeCells r).length : Int) := by omega
  simp [e]
end Go.Proofs.YtfagfkfcokmclaaGreatDoor

/- Texts put together: LdD, LdE. -/
import Derived.Test.YtfagfkfcokmclaaGreatDoorZLbH
import Derived.Test.YtfagfkfcokmclaaGreatDoorZWaI
import Derived.Test.YtfagfkfcokmclaaGreatDoorZMgC
section
set_option linter.unusedSimpArgs false
set_option linter.unusedVariables false
set_option linter.constructorNameAsVariable false
namespace Go.Proofs.YtfagfkfcokmclaaGreatDoor
open Go.RowKit Go.Sort

set_option maxRecDepth 100000 in
set_option maxHeartbeats 800000 in
theorem must_atom (k n s : Int) (t : ByteArray) (b : Bool) (w : World) : Calls Tryz.prog 41 #[.agg #[.int .i64 k, .int .i64 n, .int .i64 s, .string t, .bool b], .int .i64 0] w fun e w' => e = .returned (.agg #[.int .i64 k, .int .i64 n, .int .i64 s, .string t, .bool b]) ∧ Below w.heap.size w w' := by
  go_enter Tryz.func41, Tryz.ntmps41
  go_wp2_with fail
  refine bodyPost_ret (v := .agg #[.int .i64 k, .int .i64 n, .int .i64 s, .string t, .bool b]) ?_ rfl ⟨rfl, ?_⟩
  · simp [results, Tryz.results41, go_sem]
  · go_grown
set_option maxRecDepth 100000 in
set_option maxHeartbeats 800000 in
theorem must_int (n : Int) (w : World) : Calls Tryz.prog 88 #[.int .i64 n, .int .i64 0] w fun e w' => e = .returned (.int .i64 n) ∧ w = w' := by
  go_enter Tryz.func88, Tryz.ntmps88
  go_wp2_with fail
  go_returns
  exact ⟨rfl, rfl⟩
theorem first_any (n m : Int) (w : World) : Calls Tryz.prog 86 #[.int .i64 n, .int .i64 m] w fun e w' => e = .returned (.int .i64 m) ∧ w = w' := by
  go_enter Tryz.func86, Tryz.ntmps86
  go_wp2_with fail
  go_returns
  exact ⟨rfl, rfl⟩
set_option maxRecDepth 100000 in
set_option maxHeartbeats 800000 in
theorem onum_int (n : Int) (w : World) : Calls Tryz.prog 75 #[.agg #[.int .i64 1, .int .i64 n, .int .i64 0, .string ⟨#[]⟩, .bool false]] w fun e w' => e = .returned (.tuple #[.agg #[.int .i64 1, .int .i64 n, .int .i64 0, .string ⟨#[]⟩, .bool false], .int .i64 0]) ∧ Below w.heap.size w w' := by
  have CN : Hid (∀ w', Calls Tryz.prog 131 #[.agg #[.int .i64 1, .int .i64 n, .int .i64 0, .string ⟨#[]⟩, .bool false]] w' fun e w'' => e = .returned (.bool true) ∧ Below w'.heap.size w' w'') := fun w' => numeric_any 1 n 0 ⟨#[]⟩ false w'
  have hb0 : Below w.heap.size w ((w.alloc (.cells #[.int .i64 1, .int .i64 n, .int .i64 0, .string ⟨#[]⟩, .bool false] 24)).alloc (.cells #[.int .i64 0, .int .i64 0, .int .i64 0, .string ⟨#[]⟩, .bool false] 24)) := ((Below.refl _ _).alloc (Nat.le_refl _) _).alloc (by simp) _
  have B0 : Blk ((w.alloc (.cells #[.int .i64 1, .int .i64 n, .int .i64 0, .string ⟨#[]⟩, .bool false] 24)).alloc (.cells #[.int .i64 0, .int .i64 0, .int .i64 0, .string ⟨#[]⟩, .bool false] 24)) w.heap.size #[.int .i64 1, .int .i64 n, .int .i64 0, .string ⟨#[]⟩, .bool false] 24 := (Blk.new _ _ _).alloc _
  have B1 : Blk ((w.alloc (.cells #[.int .i64 1, .int .i64 n, .int .i64 0, .string ⟨#[]⟩, .bool false] 24)).alloc (.cells #[.int .i64 0, .int .i64 0, .int .i64 0, .string ⟨#[]⟩, .bool false] 24)) (w.heap.size + 1) #[.int .i64 0, .int .i64 0, .int .i64 0, .string ⟨#[]⟩, .bool false] 24 := by
    have := Blk.new (w.alloc (.cells #[.int .i64 1, .int .i64 n, .int .i64 0, .string ⟨#[]⟩, .bool false] 24)) #[.int .i64 0, .int .i64 0, .int .i64 0, .string ⟨#[]⟩, .bool false] 24
    simpa using this
  go_enter Tryz.func75, Tryz.ntmps75
  go_wp2_with fail
  generalize (w.alloc (.cells #[.int .i64 1, .int .i64 n, .int .i64 0, .string ⟨#[]⟩, .bool false] 24)).alloc (.cells #[.int .i64 0, .int .i64 0, .int .i64 0, .string ⟨#[]⟩, .bool false] 24) = W at *
  have k0 := B0.lt
  have k1 := B1.lt
  with_reducible refine (CN.out _).mono ?_
  rintro e w1 ⟨rfl, hb1⟩
  have B2 : Blk w1 (w.heap.size + 1) #[.int .i64 0, .int .i64 0, .int .i64 0, .string ⟨#[]⟩, .bool false] 24 := Blk.below B1 hb1 k1
  have B3 : Blk w1 w.heap.size #[.int .i64 1, .int .i64 n, .int .i64 0, .string ⟨#[]⟩, .bool false] 24 := Blk.below B0 hb1 k0
  obtain ⟨⟨a0, a1, a2, a3, a4⟩, ⟨f0, f1, f2, f3, f4⟩⟩ := B2.five
  obtain ⟨⟨y0, y1, y2, y3, y4⟩, -⟩ := B3.five
  have k2 := B2.lt
  have k3 := B3.lt
  have hw1 : Below w.heap.size w w1 := hb0.trans (hb1.mono hb0.size)
  have B7 := ((((Blk.set B2 0 (.int .i64 1)).set 1 (.int .i64 n)).set 2 (.int .i64 0)).set 3 (.string ⟨#[]⟩)).set 4 (.bool false)
  have hw7 : Below w.heap.size w (((((w1.setCell ⟨w.heap.size + 1, 0, none⟩ (.int .i64 1)).setCell ⟨w.heap.size + 1, 1, none⟩ (.int .i64 n)).setCell ⟨w.heap.size + 1, 2, none⟩ (.int .i64 0)).setCell ⟨w.heap.size + 1, 3, none⟩ (.string ⟨#[]⟩)).setCell ⟨w.heap.size + 1, 4, none⟩ (.bool false)) := ((((hw1.setCell (by simp) _).setCell (by simp) _).setCell (by simp) _).setCell (by simp) _).setCell (by simp) _
  have q0 := B7.cell 0
  have q1 := B7.cell 1
  have q2 := B7.cell 2
  have q3 := B7.cell 3
  have q4 := B7.cell 4
  have HQ := Lib.hid (And.intro q0 (And.intro q1 (And.intro q2 (And.intro q3 (And.intro q4 hw7)))))
  clear q0 q1 q2 q3 q4 hw7 B7 B2 B3 B1 B0 hb1 hb0 CN
  go_wp2_with fail
  obtain ⟨q0, q1, q2, q3, q4, hw7⟩ := HQ.out
  generalize (((((w1.setCell ⟨w.heap.size + 1, 0, none⟩ (.int .i64 1)).setCell ⟨w.heap.size + 1, 1, none⟩ (.int .i64 n)).setCell ⟨w.heap.size + 1, 2, none⟩ (.int .i64 0)).setCell ⟨w.heap.size + 1, 3, none⟩ (.string ⟨#[]⟩)).setCell ⟨w.heap.size + 1, 4, none⟩ (.bool false)) = w7 at *
  simp at q0 q1 q2 q3 q4
  refine bodyPost_ret (v := .tuple #[.agg #[.int .i64 1, .int .i64 n, .int .i64 0, .string ⟨#[]⟩, .bool false], .int .i64 0]) ?_ rfl ⟨rfl, hw7⟩
  simp [results, Tryz.results75, go_sem, q0, q1, q2, q3, q4]
end Go.Proofs.YtfagfkfcokmclaaGreatDoor
end
section
set_option linter.unusedSimpArgs false
set_option linter.unusedVariables false
set_option linter.constructorNameAsVariable false
namespace Go.Proofs.YtfagfkfcokmclaaGreatDoor
open Go.RowKit Go.Sort

theorem addF_int (n m : Int) (h : -999999999999999999 ≤ n + m ∧ n + m ≤ 999999999999999999) : addF n 0 m 0 = (n + m, 0, 0) := by
  unfold addF lvl
  have := fitZ_exact (n + m) 0 (by omega) (n + m) 0 ⟨h.1, h.2, by omega, by omega, fun h0 => by omega⟩ (by unfold val9; rfl)
  simpa using this
set_option maxRecDepth 100000 in
set_option maxHeartbeats 1600000 in
theorem reckon_int (n m : Int) (hn : -999999999999999999 ≤ n ∧ n ≤ 999999999999999999) (hm : -999999999999999999 ≤ m ∧ m ≤ 999999999999999999) (hs : -999999999999999999 ≤ n + m ∧ n + m ≤ 999999999999999999) (w : World) :
    Calls Tryz.prog 42 #[.int .i64 6, .agg #[.int .i64 1, .int .i64 n, .int .i64 0, .string ⟨#[]⟩, .bool false], .agg #[.int .i64 1, .int .i64 m, .int .i64 0, .string ⟨#[]⟩, .bool false]] w fun e w' => e = .returned (.tuple #[.agg #[.int .i64 1, .int .i64 (n + m), .int .i64 0, .string ⟨#[]⟩, .bool false], .int .i64 0]) ∧ Below w.heap.size w w' := by
  have CN := Lib.hid onum_int
  have NA : Hid (∀ w, Calls Tryz.prog 82 #[.agg #[.int .i64 1, .int .i64 n, .int .i64 0, .string ⟨#[]⟩, .bool false]] w fun e w' => e = .returned (.agg #[.int .i64 n, .int .i64 0]) ∧ Below w.heap.size w w') := fun w => num_any 1 n 0 ⟨#[]⟩ false w
  have NB : Hid (∀ w, Calls Tryz.prog 82 #[.agg #[.int .i64 1, .int .i64 m, .int .i64 0, .string ⟨#[]⟩, .bool false]] w fun e w' => e = .returned (.agg #[.int .i64 m, .int .i64 0]) ∧ Below w.heap.size w w') := fun w => num_any 1 m 0 ⟨#[]⟩ false w
  have CS : Hid (∀ w, Calls Tryz.prog 76 #[.agg #[.int .i64 n, .int .i64 0], .agg #[.int .i64 m, .int .i64 0]] w fun e w' => e = .returned (.tuple #[.agg #[.int .i64 (n + m), .int .i64 0], .int .i64 0]) ∧ Below w.heap.size w w') := fun w => by
    have h := add_any n m 0 0 ⟨hn.1, hn.2, by omega, by omega, fun h0 => by omega⟩ ⟨hm.1, hm.2, by omega, by omega, fun h0 => by omega⟩ w
    have e := addF_int n m hs
    rw [show ((0 : Nat) : Int) = 0 from rfl, e] at h
    exact h
  have CO : Hid (∀ w, Calls Tryz.prog 44 #[.int .i64 (n + m)] w fun e w' => e = .returned (.agg #[.int .i64 1, .int .i64 (n + m), .int .i64 0, .string ⟨#[]⟩, .bool false]) ∧ Below w.heap.size w w') := fun w => of_any (n + m) w
  have hb0 : Below w.heap.size w (((w.alloc (.cells #[.int .i64 1, .int .i64 n, .int .i64 0, .string ⟨#[]⟩, .bool false] 24)).alloc (.cells #[.int .i64 1, .int .i64 m, .int .i64 0, .string ⟨#[]⟩, .bool false] 24)).alloc (.cells #[.int .i64 0, .int .i64 0, .int .i64 0, .string ⟨#[]⟩, .bool false] 24)) := (((Below.refl _ _).alloc (Nat.le_refl _) _).alloc (by simp) _).alloc (by simp; omega) _
  have B0 : Blk (((w.alloc (.cells #[.int .i64 1, .int .i64 n, .int .i64 0, .string ⟨#[]⟩, .bool false] 24)).alloc (.cells #[.int .i64 1, .int .i64 m, .int .i64 0, .string ⟨#[]⟩, .bool false] 24)).alloc (.cells #[.int .i64 0, .int .i64 0, .int .i64 0, .string ⟨#[]⟩, .bool false] 24)) w.heap.size #[.int .i64 1, .int .i64 n, .int .i64 0, .string ⟨#[]⟩, .bool false] 24 := ((Blk.new _ _ _).alloc _).alloc _
  have B1 : Blk (((w.alloc (.cells #[.int .i64 1, .int .i64 n, .int .i64 0, .string ⟨#[]⟩, .bool false] 24)).alloc (.cells #[.int .i64 1, .int .i64 m, .int .i64 0, .string ⟨#[]⟩, .bool false] 24)).alloc (.cells #[.int .i64 0, .int .i64 0, .int .i64 0, .string ⟨#[]⟩, .bool false] 24)) (w.heap.size + 1) #[.int .i64 1, .int .i64 m, .int .i64 0, .string ⟨#[]⟩, .bool false] 24 := by
    have := (Blk.new (w.alloc (.cells #[.int .i64 1, .int .i64 n, .int .i64 0, .string ⟨#[]⟩, .bool false] 24)) #[.int .i64 1, .int .i64 m, .int .i64 0, .string ⟨#[]⟩, .bool false] 24).alloc (.cells #[.int .i64 0, .int .i64 0, .int .i64 0, .string ⟨#[]⟩, .bool false] 24)
    simpa using this
  have B2 : Blk (((w.alloc (.cells #[.int .i64 1, .int .i64 n, .int .i64 0, .string ⟨#[]⟩, .bool false] 24)).alloc (.cells #[.int .i64 1, .int .i64 m, .int .i64 0, .string ⟨#[]⟩, .bool false] 24)).alloc (.cells #[.int .i64 0, .int .i64 0, .int .i64 0, .string ⟨#[]⟩, .bool false] 24)) (w.heap.size + 1 + 1) #[.int .i64 0, .int .i64 0, .int .i64 0, .string ⟨#[]⟩, .bool false] 24 := by
    have := Blk.new ((w.alloc (.cells #[.int .i64 1, .int .i64 n, .int .i64 0, .string ⟨#[]⟩, .bool false] 24)).alloc (.cells #[.int .i64 1, .int .i64 m, .int .i64 0, .string ⟨#[]⟩, .bool false] 24)) #[.int .i64 0, .int .i64 0, .int .i64 0, .string ⟨#[]⟩, .bool false] 24
    simpa using this
  clear hn hm hs
  go_enter Tryz.func42, Tryz.ntmps42
  go_wp2_with fail
  generalize ((w.alloc (.cells #[.int .i64 1, .int .i64 n, .int .i64 0, .string ⟨#[]⟩, .bool false] 24)).alloc (.cells #[.int .i64 1, .int .i64 m, .int .i64 0, .string ⟨#[]⟩, .bool false] 24)).alloc (.cells #[.int .i64 0, .int .i64 0, .int .i64 0, .string ⟨#[]⟩, .bool false] 24) = W at *
  with_reducible refine (CN.out n W).mono ?_
  rintro e w1 ⟨rfl, hb1⟩
  have hw1 := hb0.trans (hb1.mono hb0.size)
  replace B1 := B1.below hb1 B1.lt
  replace B2 := B2.below hb1 B2.lt
  have s1 := hw1.size
  obtain ⟨⟨y0, y1, y2, y3, y4⟩, -⟩ := B1.five
  have k1 := B1.lt
  clear B0 hb0 hb1
  go_wp2_with fail
  have D8 : Blk (w1.alloc (.cells #[.int .i64 1, .int .i64 n, .int .i64 0, .string ⟨#[]⟩, .bool false] 24)) w1.heap.size #[.int .i64 1, .int .i64 n, .int .i64 0, .string ⟨#[]⟩, .bool false] 24 := Blk.new _ _ _
  replace B2 := B2.alloc (.cells #[.int .i64 1, .int .i64 n, .int .i64 0, .string ⟨#[]⟩, .bool false] 24)
  have hw2 := hw1.alloc s1 (.cells #[.int .i64 1, .int .i64 n, .int .i64 0, .string ⟨#[]⟩, .bool false] 24)
  generalize w1.alloc (.cells #[.int .i64 1, .int .i64 n, .int .i64 0, .string ⟨#[]⟩, .bool false] 24) = W2 at *
  with_reducible refine (CN.out m W2).mono ?_
  rintro e w3 ⟨rfl, hb3⟩
  have hw3 := hw2.trans (hb3.mono hw2.size)
  replace D8 := D8.below hb3 D8.lt
  replace B2 := B2.below hb3 B2.lt
  have s3 := hw3.size
  clear y0 y1 y2 y3 y4 k1 hb3 hw2 hw1 B1 CN
  go_wp2_with fail
  have D10 : Blk ((w3.alloc (.cells #[.int .i64 1, .int .i64 m, .int .i64 0, .string ⟨#[]⟩, .bool false] 24)).alloc (.cells #[.func (.func 76) #[] #[], .func (.func 77) #[] #[], .func (.func 78) #[] #[], .func (.func 79) #[] #[], .func (.func 80) #[] #[], .func (.func 81) #[] #[]] 103)) w3.heap.size #[.int .i64 1, .int .i64 m, .int .i64 0, .string ⟨#[]⟩, .bool false] 24 := (Blk.new _ _ _).alloc _
  replace D8 := (D8.alloc (.cells #[.int .i64 1, .int .i64 m, .int .i64 0, .string ⟨#[]⟩, .bool false] 24)).alloc (.cells #[.func (.func 76) #[] #[], .func (.func 77) #[] #[], .func (.func 78) #[] #[], .func (.func 79) #[] #[], .func (.func 80) #[] #[], .func (.func 81) #[] #[]] 103)
  replace B2 := (B2.alloc (.cells #[.int .i64 1, .int .i64 m, .int .i64 0, .string ⟨#[]⟩, .bool false] 24)).alloc (.cells #[.func (.func 76) #[] #[], .func (.func 77) #[] #[], .func (.func 78) #[] #[], .func (.func 79) #[] #[], .func (.func 80) #[] #[], .func (.func 81) #[] #[]] 103)
  have H5 := (hw3.alloc s3 (.cells #[.int .i64 1, .int .i64 m, .int .i64 0, .string ⟨#[]⟩, .bool false] 24)).alloc (hw3.alloc s3 (.cells #[.int .i64 1, .int .i64 m, .int .i64 0, .string ⟨#[]⟩, .bool false] 24)).size (.cells #[.func (.func 76) #[] #[], .func (.func 77) #[] #[], .func (.func 78) #[] #[], .func (.func 79) #[] #[], .func (.func 80) #[] #[], .func (.func 81) #[] #[]] 103)
  generalize (w3.alloc (.cells #[.int .i64 1, .int .i64 m, .int .i64 0, .string ⟨#[]⟩, .bool false] 24)).alloc (.cells #[.func (.func 76) #[] #[], .func (.func 77) #[] #[], .func (.func 78) #[] #[], .func (.func 79) #[] #[], .func (.func 80) #[] #[], .func (.func 81) #[] #[]] 103) = W5 at *
  obtain ⟨⟨y0, y1, y2, y3, y4⟩, -⟩ := D8.five
  obtain ⟨⟨u0, u1, u2, u3, u4⟩, -⟩ := D10.five
  have k8 := D8.lt
  have k10 := D10.lt
  obtain ⟨A, hA⟩ : ∃ A : Array Value, A = #[.int .i64 (n + m), .int .i64 0] := ⟨_, rfl⟩
  have HA := Lib.hid hA
  clear hA
  refine RC.region_steps (R := RE W5.heap.size 106 A) 11 [some 44, some 45, some 46, some 47, some 48, some 49, some 43, some 50, some 51, some 12, none] (JE 9 10) RE.trans RE.drew (fun w9 => fun q hq => by simp [orig, undef] at hq) (by kernel_rfl) (by kernel_rfl) ?_
  -- 0: Op.move (Operand.tmp 11)
  apply RC.ls_val (JE.step (by decide))
  · intro x w' hb hpre K hK
    have z00 := (hb.bl.cell (p := ⟨w1.heap.size, 0, none⟩) k8).trans y0
    have z10 := (hb.bl.cell (p := ⟨w3.heap.size, 0, none⟩) k10).trans u0
    have z01 := (hb.bl.cell (p := ⟨w1.heap.size, 1, none⟩) k8).trans y1
    have z11 := (hb.bl.cell (p := ⟨w3.heap.size, 1, none⟩) k10).trans u1
    have z02 := (hb.bl.cell (p := ⟨w1.heap.size, 2, none⟩) k8).trans y2
    have z12 := (hb.bl.cell (p := ⟨w3.heap.size, 2, none⟩) k10).trans u2
    have z03 := (hb.bl.cell (p := ⟨w1.heap.size, 3, none⟩) k8).trans y3
    have z13 := (hb.bl.cell (p := ⟨w3.heap.size, 3, none⟩) k10).trans u3
    have z04 := (hb.bl.cell (p := ⟨w1.heap.size, 4, none⟩) k8).trans y4
    have z14 := (hb.bl.cell (p := ⟨w3.heap.size, 4, none⟩) k10).trans u4
    clear hpre
    simp only [frL, Act.put, List.setIfInBounds_toArray, List.set_cons_zero, List.set_cons_succ, Nat.zero_add, Nat.reduceAdd] at hK ⊢
    have HK := Lib.hid hK
    clear hK
    refine Held.mk ?_
    go_simp
    exact HK.out _ (RE.refl _)
  -- 1: Op.load 24 (Operand.tmp 8)
  apply RC.ls_val (JE.step (by decide))
  · intro x w' hb hpre K hK
    have z00 := (hb.bl.cell (p := ⟨w1.heap.size, 0, none⟩) k8).trans y0
    have z10 := (hb.bl.cell (p := ⟨w3.heap.size, 0, none⟩) k10).trans u0
    have z01 := (hb.bl.cell (p := ⟨w1.heap.size, 1, none⟩) k8).trans y1
    have z11 := (hb.bl.cell (p := ⟨w3.heap.size, 1, none⟩) k10).trans u1
    have z02 := (hb.bl.cell (p := ⟨w1.heap.size, 2, none⟩) k8).trans y2
    have z12 := (hb.bl.cell (p := ⟨w3.heap.size, 2, none⟩) k10).trans u2
    have z03 := (hb.bl.cell (p := ⟨w1.heap.size, 3, none⟩) k8).trans y3
    have z13 := (hb.bl.cell (p := ⟨w3.heap.size, 3, none⟩) k10).trans u3
    have z04 := (hb.bl.cell (p := ⟨w1.heap.size, 4, none⟩) k8).trans y4
    have z14 := (hb.bl.cell (p := ⟨w3.heap.size, 4, none⟩) k10).trans u4
    clear hpre
    simp only [frL, Act.put, List.setIfInBounds_toArray, List.set_cons_zero, List.set_cons_succ, Nat.zero_add, Nat.reduceAdd] at hK ⊢
    have HK := Lib.hid hK
    clear hK
    refine Held.mk ?_
    go_simp
    exact HK.out _ (RE.refl _)
  -- 2: Op.call { callee := Callee.value (Operand.func 82), args := #[Operand.tmp 45], a
  apply RC.ls_val (JE.step (by decide))
  · intro x w' hb hpre K hK
    have z00 := (hb.bl.cell (p := ⟨w1.heap.size, 0, none⟩) k8).trans y0
    have z10 := (hb.bl.cell (p := ⟨w3.heap.size, 0, none⟩) k10).trans u0
    have z01 := (hb.bl.cell (p := ⟨w1.heap.size, 1, none⟩) k8).trans y1
    have z11 := (hb.bl.cell (p := ⟨w3.heap.size, 1, none⟩) k10).trans u1
    have z02 := (hb.bl.cell (p := ⟨w1.heap.size, 2, none⟩) k8).trans y2
    have z12 := (hb.bl.cell (p := ⟨w3.heap.size, 2, none⟩) k10).trans u2
    have z03 := (hb.bl.cell (p := ⟨w1.heap.size, 3, none⟩) k8).trans y3
    have z13 := (hb.bl.cell (p := ⟨w3.heap.size, 3, none⟩) k10).trans u3
    have z04 := (hb.bl.cell (p := ⟨w1.heap.size, 4, none⟩) k8).trans y4
    have z14 := (hb.bl.cell (p := ⟨w3.heap.size, 4, none⟩) k10).trans u4
    simp [preds, Region.binds, RC.phi, RC.MP.val] at hpre
    simp only [frL, Act.put, List.setIfInBounds_toArray, List.set_cons_zero, List.set_cons_succ, Nat.zero_add, Nat.reduceAdd, hpre] at hK ⊢
    have HK := Lib.hid hK
    clear hK
    refine Held.mk ?_
    go_simp
    (with_reducible refine (NA.out _).mono ?_)
    rintro e w1 ⟨rfl, hb1⟩
    dsimp only
    exact HK.out _ (RE.ofBelow hb1 hb.bl.size)
  -- 3: Op.load 24 (Operand.tmp 10)
  apply RC.ls_val (JE.step (by decide))
  · intro x w' hb hpre K hK
    have z00 := (hb.bl.cell (p := ⟨w1.heap.size, 0, none⟩) k8).trans y0
    have z10 := (hb.bl.cell (p := ⟨w3.heap.size, 0, none⟩) k10).trans u0
    have z01 := (hb.bl.cell (p := ⟨w1.heap.size, 1, none⟩) k8).trans y1
    have z11 := (hb.bl.cell (p := ⟨w3.heap.size, 1, none⟩) k10).trans u1
    have z02 := (hb.bl.cell (p := ⟨w1.heap.size, 2, none⟩) k8).trans y2
    have z12 := (hb.bl.cell (p := ⟨w3.heap.size, 2, none⟩) k10).trans u2
    have z03 := (hb.bl.cell (p := ⟨w1.heap.size, 3, none⟩) k8).trans y3
    have z13 := (hb.bl.cell (p := ⟨w3.heap.size, 3, none⟩) k10).trans u3
    have z04 := (hb.bl.cell (p := ⟨w1.heap.size, 4, none⟩) k8).trans y4
    have z14 := (hb.bl.cell (p := ⟨w3.heap.size, 4, none⟩) k10).trans u4
    clear hpre
    simp only [frL, Act.put, List.setIfInBounds_toArray, List.set_cons_zero, List.set_cons_succ, Nat.zero_add, Nat.reduceAdd] at hK ⊢
    have HK := Lib.hid hK
    clear hK
    refine Held.mk ?_
    go_simp
    exact HK.out _ (RE.refl _)
  -- 4: Op.call { callee := Callee.value (Operand.func 82), args := #[Operand.tmp 47], a
  apply RC.ls_val (JE.step (by decide))
  · intro x w' hb hpre K hK
    have z00 := (hb.bl.cell (p := ⟨w1.heap.size, 0, none⟩) k8).trans y0
    have z10 := (hb.bl.cell (p := ⟨w3.heap.size, 0, none⟩) k10).trans u0
    have z01 := (hb.bl.cell (p := ⟨w1.heap.size, 1, none⟩) k8).trans y1
    have z11 := (hb.bl.cell (p := ⟨w3.heap.size, 1, none⟩) k10).trans u1
    have z02 := (hb.bl.cell (p := ⟨w1.heap.size, 2, none⟩) k8).trans y2
    have z12 := (hb.bl.cell (p := ⟨w3.heap.size, 2, none⟩) k10).trans u2
    have z03 := (hb.bl.cell (p := ⟨w1.heap.size, 3, none⟩) k8).trans y3
    have z13 := (hb.bl.cell (p := ⟨w3.heap.size, 3, none⟩) k10).trans u3
    have z04 := (hb.bl.cell (p := ⟨w1.heap.size, 4, none⟩) k8).trans y4
    have z14 := (hb.bl.cell (p := ⟨w3.heap.size, 4, none⟩) k10).trans u4
    simp [preds, Region.binds, RC.phi, RC.MP.val] at hpre
    simp only [frL, Act.put, List.setIfInBounds_toArray, List.set_cons_zero, List.set_cons_succ, Nat.zero_add, Nat.reduceAdd, hpre] at hK ⊢
    have HK := Lib.hid hK
    clear hK
    refine Held.mk ?_
    go_simp
    (with_reducible refine (NB.out _).mono ?_)
    rintro e w1 ⟨rfl, hb1⟩
    dsimp only
    exact HK.out _ (RE.ofBelow hb1 hb.bl.size)
  -- 5: Op.call { callee := Callee.value (Operand.tmp 44), args := #[Operand.tmp 46, Ope
  apply RC.ls_val (JE.step (by decide))
  · intro x w' hb hpre K hK
    have z00 := (hb.bl.cell (p := ⟨w1.heap.size, 0, none⟩) k8).trans y0
    have z10 := (hb.bl.cell (p := ⟨w3.heap.size, 0, none⟩) k10).trans u0
    have z01 := (hb.bl.cell (p := ⟨w1.heap.size, 1, none⟩) k8).trans y1
    have z11 := (hb.bl.cell (p := ⟨w3.heap.size, 1, none⟩) k10).trans u1
    have z02 := (hb.bl.cell (p := ⟨w1.heap.size, 2, none⟩) k8).trans y2
    have z12 := (hb.bl.cell (p := ⟨w3.heap.size, 2, none⟩) k10).trans u2
    have z03 := (hb.bl.cell (p := ⟨w1.heap.size, 3, none⟩) k8).trans y3
    have z13 := (hb.bl.cell (p := ⟨w3.heap.size, 3, none⟩) k10).trans u3
    have z04 := (hb.bl.cell (p := ⟨w1.heap.size, 4, none⟩) k8).trans y4
    have z14 := (hb.bl.cell (p := ⟨w3.heap.size, 4, none⟩) k10).trans u4
    simp [preds, Region.binds, RC.phi, RC.MP.val] at hpre
    simp only [frL, Act.put, List.setIfInBounds_toArray, List.set_cons_zero, List.set_cons_succ, Nat.zero_add, Nat.reduceAdd, hpre] at hK ⊢
    have HK := Lib.hid hK
    clear hK
    refine Held.mk ?_
    go_simp
    (with_reducible refine (CS.out _).mono ?_)
    rintro e w1 ⟨rfl, hb1⟩
    dsimp only
    exact HK.out _ (RE.ofBelow hb1 hb.bl.size)
  -- 6: Op.move (Operand.tmp 49)
  apply RC.ls_val (JE.step (by decide))
  · intro x w' hb hpre K hK
    have z00 := (hb.bl.cell (p := ⟨w1.heap.size, 0, none⟩) k8).trans y0
    have z10 := (hb.bl.cell (p := ⟨w3.heap.size, 0, none⟩) k10).trans u0
    have z01 := (hb.bl.cell (p := ⟨w1.heap.size, 1, none⟩) k8).trans y1
    have z11 := (hb.bl.cell (p := ⟨w3.heap.size, 1, none⟩) k10).trans u1
    have z02 := (hb.bl.cell (p := ⟨w1.heap.size, 2, none⟩) k8).trans y2
    have z12 := (hb.bl.cell (p := ⟨w3.heap.size, 2, none⟩) k10).trans u2
    have z03 := (hb.bl.cell (p := ⟨w1.heap.size, 3, none⟩) k8).trans y3
    have z13 := (hb.bl.cell (p := ⟨w3.heap.size, 3, none⟩) k10).trans u3
    have z04 := (hb.bl.cell (p := ⟨w1.heap.size, 4, none⟩) k8).trans y4
    have z14 := (hb.bl.cell (p := ⟨w3.heap.size, 4, none⟩) k10).trans u4
    simp [preds, Region.binds, RC.phi, RC.MP.val] at hpre
    simp only [frL, Act.put, List.setIfInBounds_toArray, List.set_cons_zero, List.set_cons_succ, Nat.zero_add, Nat.reduceAdd, hpre] at hK ⊢
    have HK := Lib.hid hK
    clear hK
    refine Held.mk ?_
    go_simp
    exact HK.out _ (RE.refl _)
  -- 7: Op.extract (Operand.tmp 43) 0
  apply RC.ls_val (JE.step (by decide))
  · intro x w' hb hpre K hK
    have z00 := (hb.bl.cell (p := ⟨w1.heap.size, 0, none⟩) k8).trans y0
    have z10 := (hb.bl.cell (p := ⟨w3.heap.size, 0, none⟩) k10).trans u0
    have z01 := (hb.bl.cell (p := ⟨w1.heap.size, 1, none⟩) k8).trans y1
    have z11 := (hb.bl.cell (p := ⟨w3.heap.size, 1, none⟩) k10).trans u1
    have z02 := (hb.bl.cell (p := ⟨w1.heap.size, 2, none⟩) k8).trans y2
    have z12 := (hb.bl.cell (p := ⟨w3.heap.size, 2, none⟩) k10).trans u2
    have z03 := (hb.bl.cell (p := ⟨w1.heap.size, 3, none⟩) k8).trans y3
    have z13 := (hb.bl.cell (p := ⟨w3.heap.size, 3, none⟩) k10).trans u3
    have z04 := (hb.bl.cell (p := ⟨w1.heap.size, 4, none⟩) k8).trans y4
    have z14 := (hb.bl.cell (p := ⟨w3.heap.size, 4, none⟩) k10).trans u4
    simp [preds, Region.binds, RC.phi, RC.MP.val] at hpre
    simp only [frL, Act.put, List.setIfInBounds_toArray, List.set_cons_zero, List.set_cons_succ, Nat.zero_add, Nat.reduceAdd, hpre] at hK ⊢
    have HK := Lib.hid hK
    clear hK
    refine Held.mk ?_
    go_simp
    exact HK.out _ (RE.refl _)
  -- 8: Op.extract (Operand.tmp 43) 1
  apply RC.ls_val (JE.step (by decide))
  · intro x w' hb hpre K hK
    have z00 := (hb.bl.cell (p := ⟨w1.heap.size, 0, none⟩) k8).trans y0
    have z10 := (hb.bl.cell (p := ⟨w3.heap.size, 0, none⟩) k10).trans u0
    have z01 := (hb.bl.cell (p := ⟨w1.heap.size, 1, none⟩) k8).trans y1
    have z11 := (hb.bl.cell (p := ⟨w3.heap.size, 1, none⟩) k10).trans u1
    have z02 := (hb.bl.cell (p := ⟨w1.heap.size, 2, none⟩) k8).trans y2
    have z12 := (hb.bl.cell (p := ⟨w3.heap.size, 2, none⟩) k10).trans u2
    have z03 := (hb.bl.cell (p := ⟨w1.heap.size, 3, none⟩) k8).trans y3
    have z13 := (hb.bl.cell (p := ⟨w3.heap.size, 3, none⟩) k10).trans u3
    have z04 := (hb.bl.cell (p := ⟨w1.heap.size, 4, none⟩) k8).trans y4
    have z14 := (hb.bl.cell (p := ⟨w3.heap.size, 4, none⟩) k10).trans u4
    simp [preds, Region.binds, RC.phi, RC.MP.val] at hpre
    simp only [frL, Act.put, List.setIfInBounds_toArray, List.set_cons_zero, List.set_cons_succ, Nat.zero_add, Nat.reduceAdd, hpre] at hK ⊢
    have HK := Lib.hid hK
    clear hK
    refine Held.mk ?_
    go_simp
    exact HK.out _ (RE.refl _)
  -- 9: Op.alloc 106
  refine RC.ls_genO (MPbo W5.heap.size 106 A) ?_ ?_
  · intro x w' hb hj hpre ho K hK
    have ho10 : ∀ q, x 10 ≠ .pointer (some ⟨q, 0, none⟩) := fun q hq => by rw [ho 10 (by omega) (by kernel_rfl)] at hq; simp [orig, undef] at hq
    clear ho
    have z00 := (hb.bl.cell (p := ⟨w1.heap.size, 0, none⟩) k8).trans y0
    have z10 := (hb.bl.cell (p := ⟨w3.heap.size, 0, none⟩) k10).trans u0
    have z01 := (hb.bl.cell (p := ⟨w1.heap.size, 1, none⟩) k8).trans y1
    have z11 := (hb.bl.cell (p := ⟨w3.heap.size, 1, none⟩) k10).trans u1
    have z02 := (hb.bl.cell (p := ⟨w1.heap.size, 2, none⟩) k8).trans y2
    have z12 := (hb.bl.cell (p := ⟨w3.heap.size, 2, none⟩) k10).trans u2
    have z03 := (hb.bl.cell (p := ⟨w1.heap.size, 3, none⟩) k8).trans y3
    have z13 := (hb.bl.cell (p := ⟨w3.heap.size, 3, none⟩) k10).trans u3
    have z04 := (hb.bl.cell (p := ⟨w1.heap.size, 4, none⟩) k8).trans y4
    have z14 := (hb.bl.cell (p := ⟨w3.heap.size, 4, none⟩) k10).trans u4
    clear hpre
    simp only [frL, Act.put, List.setIfInBounds_toArray, List.set_cons_zero, List.set_cons_succ, Nat.zero_add, Nat.reduceAdd] at hK ⊢
    have HK := Lib.hid hK
    clear hK
    refine Held.mk ?_
    go_simp
    exact HK.out _ _ ⟨_, _, rfl, hb.bl.size, by rw [HA.out]; rfl, Blk.new _ _ _⟩ (JE.make ho10 rfl _) (RE.ofBelow ((Below.refl _ _).alloc (Nat.le_refl _) _) hb.bl.size)
  -- 10: Op.store 106 (Operand.tmp 12) (Operand.tmp 50)
  refine RC.ls_gen (MPfi W5.heap.size 106 A) ?_ ?_
  · intro x w' hb hj hpre K hK
    have p0 := hpre.1 rfl
    have p1 := hpre.2.1 rfl
    clear hpre
    simp [RC.phi, MPbo] at p0
    simp [RC.phi, RC.MP.val] at p1
    obtain ⟨q9, hq, hBq, cs, hsz, hy⟩ := p0
    rw [HA.out] at hsz
    obtain ⟨y1, y2, rfl⟩ := arr2 hsz
    obtain ⟨d0, d1', e0, e1⟩ := hy.two
    have hp := RE.put2 (B := W5.heap.size) HA.out hy hBq
    simp only [frL, Act.put, List.setIfInBounds_toArray, List.set_cons_zero, List.set_cons_succ, Nat.zero_add, Nat.reduceAdd, hq, p1] at hK ⊢
    have HK := Lib.hid hK
    clear hK
    refine Held.mk ?_
    go_simp
    exact HK.out (.pointer (some ⟨q9, 0, none⟩)) _ ⟨q9, rfl, hBq, hp.2⟩ (JE.put hq rfl) hp.1
  intro x w' hb hp hJ
  simp only [List.cons_append, List.nil_append, RC.phis, RC.MP.val, frL, Act.put, List.setIfInBounds_toArray, List.set_cons_zero, List.set_cons_succ, Nat.zero_add, Nat.reduceAdd] at hp ⊢
  obtain ⟨h0, h1, h2, h3, h4, h5, h6, h7, h8, h9, h10, -⟩ := hp
  simp only [h0, h1, h2, h3, h4, h5, h6, h7, h8]
  clear h0 h1 h2 h3 h4 h5 h6 h7 h8
  obtain ⟨q9, hq, hBq, hBl⟩ : ∃ q, x 10 = .pointer (some ⟨q, 0, none⟩) ∧ W5.heap.size ≤ q ∧ Blk w' q A 106 := h10
  have hq8 := hJ q9 hq
  rw [HA.out] at hBl
  replace B2 := B2.below hb.bl B2.lt
  replace D8 := D8.below hb.bl D8.lt
  replace D10 := D10.below hb.bl D10.lt
  have hw6 := H5.trans (hb.bl.mono H5.size)
  simp only [hq8]
  clear y0 y1 y2 y3 y4 u0 u1 u2 u3 u4 k8 k10 NA NB CS h9 hJ hq hq8 HA hb H5
  obtain ⟨⟨y0, y1, y2, y3, y4⟩, -⟩ := D8.five
  obtain ⟨⟨u0, u1, u2, u3, u4⟩, -⟩ := D10.five
  obtain ⟨r0, r1, -⟩ := hBl.two
  have k8 := D8.lt
  have k10 := D10.lt
  have kq := hBl.lt
  have s6 := hw6.size
  show wpList Tryz.prog _ _ [_] _ _
  go_wp2_with fail
  with_reducible refine (CO.out w').mono ?_
  rintro e w7 ⟨rfl, hb7⟩
  have hw7 := hw6.trans (hb7.mono s6)
  replace B2 := B2.below hb7 B2.lt
  clear y0 y1 y2 y3 y4 u0 u1 u2 u3 u4 r0 r1 k8 k10 kq D8 D10 hBl hb7 CO
  obtain ⟨⟨a0, a1, a2, a3, a4⟩, ⟨f0, f1, f2, f3, f4⟩⟩ := B2.five
  have k2 := B2.lt
  have B7 := ((((Blk.set B2 0 (.int .i64 1)).set 1 (.int .i64 (n + m))).set 2 (.int .i64 0)).set 3 (.string ⟨#[]⟩)).set 4 (.bool false)
  have hw8 : Below w.heap.size w (((((w7.setCell ⟨w.heap.size + 1 + 1, 0, none⟩ (.int .i64 1)).setCell ⟨w.heap.size + 1 + 1, 1, none⟩ (.int .i64 (n + m))).setCell ⟨w.heap.size + 1 + 1, 2, none⟩ (.int .i64 0)).setCell ⟨w.heap.size + 1 + 1, 3, none⟩ (.string ⟨#[]⟩)).setCell ⟨w.heap.size + 1 + 1, 4, none⟩ (.bool false)) := ((((hw7.setCell (by simp; omega) _).setCell (by simp; omega) _).setCell (by simp; omega) _).setCell (by simp; omega) _).setCell (by simp; omega) _
  have q0 := B7.cell 0
  have q1 := B7.cell 1
  have q2 := B7.cell 2
  have q3 := B7.cell 3
  have q4 := B7.cell 4
  have HQ := Lib.hid (And.intro q0 (And.intro q1 (And.intro q2 (And.intro q3 (And.intro q4 hw8)))))
  clear q0 q1 q2 q3 q4 hw8 B7 B2 hw7 hw6
  go_wp2_with fail
  obtain ⟨q0, q1, q2, q3, q4, hw8⟩ := HQ.out
  generalize (((((w7.setCell ⟨w.heap.size + 1 + 1, 0, none⟩ (.int .i64 1)).setCell ⟨w.heap.size + 1 + 1, 1, none⟩ (.int .i64 (n + m))).setCell ⟨w.heap.size + 1 + 1, 2, none⟩ (.int .i64 0)).setCell ⟨w.heap.size + 1 + 1, 3, none⟩ (.string ⟨#[]⟩)).setCell ⟨w.heap.size + 1 + 1, 4, none⟩ (.bool false)) = w8 at *
  simp at q0 q1 q2 q3 q4
  refine bodyPost_ret (v := .tuple #[.agg #[.int .i64 1, .int .i64 (n + m), .int .i64 0, .string ⟨#[]⟩, .bool false], .int .i64 0]) ?_ rfl ⟨rfl, hw8⟩
  simp [results, Tryz.results42, go_sem, q0, q1, q2, q3, q4]
end Go.Proofs.YtfagfkfcokmclaaGreatDoor
end

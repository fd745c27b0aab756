/- caller.strings at 'substring'. -/
import Derived.Test.YtfagfkfcokmclaaGreatDoorZLbF
import Derived.Test.YtfagfkfcokmclaaGreatDoorZLbQ
import Derived.Test.YtfagfkfcokmclaaGreatDoorZLbA
set_option linter.unusedSimpArgs false
set_option linter.unusedVariables false
set_option linter.constructorNameAsVariable false
namespace Go.Proofs.YtfagfkfcokmclaaGreatDoor
open Go.RowKit Go.Sort

set_option maxRecDepth 100000 in
set_option maxHeartbeats 1600000 in
theorem cstrings_sub (s : ByteArray) (hs : s.size ≤ 65536) (f g : Int) (hf : -100000000 ≤ f ∧ f ≤ 100000000) (hg : -100000000 ≤ g ∧ g ≤ 100000000) (n ab ao cc : Nat) (w : World) (h : Arg1 w ab ao n 0 (textA s))
    (hP : ∀ W, Below w.heap.size w W → Calls Tryz.prog 103 #[.agg #[.pointer none, .slice (some ⟨ab, ao, none⟩) n cc], .int .i64 ((Lib.runeCount s : Nat) : Int)] W fun e w' => e = .returned (.tuple #[.int .i64 f, .int .i64 g]) ∧ Below W.heap.size W w') :
    Calls Tryz.prog 53 #[.agg #[.pointer none, .slice (some ⟨ab, ao, none⟩) n cc], .string ⟨#[115, 117, 98, 115, 116, 114, 105, 110, 103]⟩] w fun e w' => ∃ v, e = .returned v ∧ OwnI w.heap.size w' v [textA (partT s (max f 1 - 1) (g - max f 1))] ∧ Below w.heap.size w w' := by
  have hb0 : Below w.heap.size w (w.alloc (.cells #[.pointer none, .slice (some ⟨ab, ao, none⟩) n cc] 51)) := (Below.refl _ _).alloc (Nat.le_refl _) _
  have B0 : Blk (w.alloc (.cells #[.pointer none, .slice (some ⟨ab, ao, none⟩) n cc] 51)) w.heap.size #[.pointer none, .slice (some ⟨ab, ao, none⟩) n cc] 51 := Blk.new _ _ _
  have C1 : Hid (Calls Tryz.prog 37 #[.agg #[.pointer none, .slice (some ⟨ab, ao, none⟩) n cc], .int .i64 0] (w.alloc (.cells #[.pointer none, .slice (some ⟨ab, ao, none⟩) n cc] 51)) fun e w' => e = .returned (.string s) ∧ Below (w.alloc (.cells #[.pointer none, .slice (some ⟨ab, ao, none⟩) n cc] 51)).heap.size (w.alloc (.cells #[.pointer none, .slice (some ⟨ab, ao, none⟩) n cc] 51)) w') := cstr_any s ab ao n cc 0 _ (h.on hb0)
  have HL := Lib.hid (fun W => clen_any s (by omega) W)
  generalize Lib.runeCount s = N at hP HL
  have CS := Lib.hid (fun W => csub_any s (max f 1 - 1) (g - max f 1) (by omega) (by omega) (by omega) (by omega) (by omega) W)
  have CT := Lib.hid (fun W => text_row (partT s (max f 1 - 1) (g - max f 1)) W)
  generalize partT s (max f 1 - 1) (g - max f 1) = T at *
  have HP0 := Lib.hid hP
  clear h hP
  go_enter Tryz.func53, Tryz.ntmps53
  go_wp2_with fail
  generalize w.alloc (.cells #[.pointer none, .slice (some ⟨ab, ao, none⟩) n cc] 51) = W at *
  have kB := B0.lt
  with_reducible refine C1.out.mono ?_
  rintro e w1 ⟨rfl, hb1⟩
  have B1 := B0.below hb1 kB
  have hw1 := hb0.trans (hb1.mono hb0.size)
  clear B0 kB
  have c0 : w1.cell? ⟨w.heap.size, 0, none⟩ = some (.pointer none) := B1.cell 0
  have c1 : w1.cell? ⟨w.heap.size, 1, none⟩ = some (.slice (some ⟨ab, ao, none⟩) n cc) := B1.cell 1
  have kB := B1.lt
  have HP := Lib.hid (fun (V : World) (hV : RG w1 V) => HP0.out V (hw1.trans (hV.mono hw1.size)))
  clear C1 B1 hb1 hb0 HP0
  go_wp2_with fail
  refine RC.region_steps (R := RG) 8 [some 34, some 35, some 36, some 37, some 33, some 38, some 39, some 6] (fun _ _ => True) (fun a b c h1 h2 => h1.trans (h2.mono h1.size)) (fun w => ⟨rfl, rfl, rfl, Nat.le_refl _, fun _ _ => rfl⟩) (fun _ => trivial) (by kernel_rfl) (by kernel_rfl) ?_
  -- 0: Op.load 51 (Operand.tmp 2)
  apply RC.ls_val (fun _ _ _ _ _ _ => trivial)
  · intro x w' hb hpre K hK
    have z0 := (hb.cell (p := ⟨w.heap.size, 0, none⟩) kB).trans c0
    have z1 := (hb.cell (p := ⟨w.heap.size, 1, none⟩) kB).trans c1
    have zs := hb.size
    clear hpre
    simp only [frL, Act.put, List.setIfInBounds_toArray, List.set_cons_zero, List.set_cons_succ, Nat.zero_add, Nat.reduceAdd] at hK ⊢
    have HK := Lib.hid hK
    clear hK
    refine Held.mk ?_
    go_simp
    exact HK.out _ (Below.refl _ _)
  -- 1: Op.move (Operand.tmp 5)
  apply RC.ls_val (fun _ _ _ _ _ _ => trivial)
  · intro x w' hb hpre K hK
    have z0 := (hb.cell (p := ⟨w.heap.size, 0, none⟩) kB).trans c0
    have z1 := (hb.cell (p := ⟨w.heap.size, 1, none⟩) kB).trans c1
    have zs := hb.size
    clear hpre
    simp only [frL, Act.put, List.setIfInBounds_toArray, List.set_cons_zero, List.set_cons_succ, Nat.zero_add, Nat.reduceAdd] at hK ⊢
    have HK := Lib.hid hK
    clear hK
    refine Held.mk ?_
    go_simp
    exact HK.out _ (Below.refl _ _)
  -- 2: Op.call { callee := Callee.value (Operand.func 109), args := #[Operand.tmp 35], 
  apply RC.ls_val (fun _ _ _ _ _ _ => trivial)
  · intro x w' hb hpre K hK
    have z0 := (hb.cell (p := ⟨w.heap.size, 0, none⟩) kB).trans c0
    have z1 := (hb.cell (p := ⟨w.heap.size, 1, none⟩) kB).trans c1
    have zs := hb.size
    simp [preds, Region.binds, RC.phi, RC.MP.val] at hpre
    simp only [frL, Act.put, List.setIfInBounds_toArray, List.set_cons_zero, List.set_cons_succ, Nat.zero_add, Nat.reduceAdd, hpre] at hK ⊢
    have HK := Lib.hid hK
    clear hK
    refine Held.mk ?_
    go_simp
    with_reducible refine (HL.out w').mono ?_
    rintro e w2 ⟨rfl, hb1⟩
    dsimp only
    exact HK.out _ hb1
  -- 3: Op.call { callee := Callee.value (Operand.func 103), args := #[Operand.tmp 34, O
  apply RC.ls_val (fun _ _ _ _ _ _ => trivial)
  · intro x w' hb hpre K hK
    have z0 := (hb.cell (p := ⟨w.heap.size, 0, none⟩) kB).trans c0
    have z1 := (hb.cell (p := ⟨w.heap.size, 1, none⟩) kB).trans c1
    have zs := hb.size
    simp [preds, Region.binds, RC.phi, RC.MP.val] at hpre
    simp only [frL, Act.put, List.setIfInBounds_toArray, List.set_cons_zero, List.set_cons_succ, Nat.zero_add, Nat.reduceAdd, hpre] at hK ⊢
    have HK := Lib.hid hK
    clear hK
    refine Held.mk ?_
    go_simp
    with_reducible refine (HP.out w' hb).mono ?_
    rintro e w2 ⟨rfl, hb1⟩
    dsimp only
    exact HK.out _ hb1
  -- 4: Op.move (Operand.tmp 37)
  apply RC.ls_val (fun _ _ _ _ _ _ => trivial)
  · intro x w' hb hpre K hK
    have z0 := (hb.cell (p := ⟨w.heap.size, 0, none⟩) kB).trans c0
    have z1 := (hb.cell (p := ⟨w.heap.size, 1, none⟩) kB).trans c1
    have zs := hb.size
    simp [preds, Region.binds, RC.phi, RC.MP.val] at hpre
    simp only [frL, Act.put, List.setIfInBounds_toArray, List.set_cons_zero, List.set_cons_succ, Nat.zero_add, Nat.reduceAdd, hpre] at hK ⊢
    have HK := Lib.hid hK
    clear hK
    refine Held.mk ?_
    go_simp
    exact HK.out _ (Below.refl _ _)
  -- 5: Op.extract (Operand.tmp 33) 0
  apply RC.ls_val (fun _ _ _ _ _ _ => trivial)
  · intro x w' hb hpre K hK
    have z0 := (hb.cell (p := ⟨w.heap.size, 0, none⟩) kB).trans c0
    have z1 := (hb.cell (p := ⟨w.heap.size, 1, none⟩) kB).trans c1
    have zs := hb.size
    simp [preds, Region.binds, RC.phi, RC.MP.val] at hpre
    simp only [frL, Act.put, List.setIfInBounds_toArray, List.set_cons_zero, List.set_cons_succ, Nat.zero_add, Nat.reduceAdd, hpre] at hK ⊢
    have HK := Lib.hid hK
    clear hK
    refine Held.mk ?_
    go_simp
    exact HK.out _ (Below.refl _ _)
  -- 6: Op.extract (Operand.tmp 33) 1
  apply RC.ls_val (fun _ _ _ _ _ _ => trivial)
  · intro x w' hb hpre K hK
    have z0 := (hb.cell (p := ⟨w.heap.size, 0, none⟩) kB).trans c0
    have z1 := (hb.cell (p := ⟨w.heap.size, 1, none⟩) kB).trans c1
    have zs := hb.size
    simp [preds, Region.binds, RC.phi, RC.MP.val] at hpre
    simp only [frL, Act.put, List.setIfInBounds_toArray, List.set_cons_zero, List.set_cons_succ, Nat.zero_add, Nat.reduceAdd, hpre] at hK ⊢
    have HK := Lib.hid hK
    clear hK
    refine Held.mk ?_
    go_simp
    exact HK.out _ (Below.refl _ _)
  -- 7: Op.assign (Operand.tmp 38)
  apply RC.ls_val (fun _ _ _ _ _ _ => trivial)
  · intro x w' hb hpre K hK
    have z0 := (hb.cell (p := ⟨w.heap.size, 0, none⟩) kB).trans c0
    have z1 := (hb.cell (p := ⟨w.heap.size, 1, none⟩) kB).trans c1
    have zs := hb.size
    simp [preds, Region.binds, RC.phi, RC.MP.val] at hpre
    simp only [frL, Act.put, List.setIfInBounds_toArray, List.set_cons_zero, List.set_cons_succ, Nat.zero_add, Nat.reduceAdd, hpre] at hK ⊢
    have HK := Lib.hid hK
    clear hK
    refine Held.mk ?_
    go_simp
    exact HK.out _ (Below.refl _ _)
  intro x w' hb hp hJ
  simp only [List.cons_append, List.nil_append, RC.phis, RC.MP.val, frL, Act.put, List.setIfInBounds_toArray, List.set_cons_zero, List.set_cons_succ, Nat.zero_add, Nat.reduceAdd] at hp ⊢
  obtain ⟨h0, h1, h2, h3, h4, h5, h6, h7, -⟩ := hp
  simp only [h0, h1, h2, h3, h4, h5, h6, h7]
  clear h0 h1 h2 h3 h4 h5 h6 h7
  have hw2 : Below w.heap.size w w' := hw1.trans (hb.mono hw1.size)
  clear hJ hb hw1 HP HL c0 c1 kB
  show wpList Tryz.prog _ _ [_] _ _
  go_wp2_with fail
  with_reducible refine (CS.out _).mono ?_
  rintro e w3 ⟨rfl, hb3⟩
  have hw3 := hw2.trans (hb3.mono hw2.size)
  go_wp2_with fail
  with_reducible refine (CT.out _).mono ?_
  rintro e w4 ⟨v, rfl, hO, hb4⟩
  have HO := Lib.hid (OwnI.low hO hw3.size)
  have hw4 := hw3.trans (hb4.mono hw3.size)
  clear hO
  go_wp2_with fail
  go_returns
  exact ⟨_, rfl, HO.out, hw4⟩
end Go.Proofs.YtfagfkfcokmclaaGreatDoor

/- The program's order of attributes: the comparison that sorts. -/
import Derived.Test.YtgdbbocfiejlfaaDoorDpJ
import Derived.Test.YtgdbbocfiejlfaaDoorLoC
import Derived.Test.YtgdbbocfiejlfaaDoorShf
import Derived.Sort.Grow
import Derived.Shelf.SlSortCmp.QuietGrown
set_option linter.unusedSimpArgs false
set_option linter.unusedVariables false
set_option linter.constructorNameAsVariable false
namespace Go.Proofs.YtgdbbocfiejlfaaDoor
open Go.RowKit Go.Sort

/-- Some draws, some blocks behind. -/
structure GrownR (w w' : World) : Prop where
  ex : ∃ q os, w' = grow (w.drewN q) os
theorem GrownR.refl (w : World) : GrownR w w := ⟨0, #[], by rw [grow_empty]; rfl⟩
theorem GrownR.trans {a b c : World} (h1 : GrownR a b) (h2 : GrownR b c) : GrownR a c := by
  obtain ⟨q, os, rfl⟩ := h1
  obtain ⟨p, os', rfl⟩ := h2
  refine ⟨q + p, os ++ os', ?_⟩
  show grow (grow ((a.drewN q).drewN p) os) os' = _
  rw [grow_grow, World.drewN_drewN]
theorem GrownR.drew (w : World) : GrownR w { w with drawn := w.drawn + 1 } := ⟨1, #[], by rw [grow_empty]; rfl⟩
theorem GrownR.alloc (w : World) (o : Obj) : GrownR w (w.alloc o) := ⟨0, #[o], by rw [alloc_eq_grow]; rfl⟩
theorem GrownR.cell {w w' : World} (h : GrownR w w') {b o : Nat} {v : Value} (hb : b < w.heap.size) (hc : w.cell? ⟨b, o, none⟩ = some v) : w'.cell? ⟨b, o, none⟩ = some v := by
  obtain ⟨q, os, rfl⟩ := h
  exact Go.cell_grown (a := ⟨b, o, none⟩) hb hc q os
theorem GrownR.blk {w w' : World} (h : GrownR w w') {b : Nat} {cs : Array Value} {t : TypeId} (hB : Blk w b cs t) : Blk w' b cs t := by
  obtain ⟨q, os, rfl⟩ := h
  unfold Blk at hB ⊢
  have hlt := Blk.lt hB
  show (w.heap ++ os)[b]? = _
  rw [Array.getElem?_append_left hlt]
  exact hB
theorem GrownR.below {w w' : World} (h : GrownR w w') : Below w.heap.size w w' := by
  obtain ⟨q, os, rfl⟩ := h
  refine ⟨rfl, rfl, rfl, by show _ ≤ (w.heap ++ os).size; simp, fun i hi => ?_⟩
  show (w.heap ++ os)[i]? = _
  rw [Array.getElem?_append_left hi]
/-- A slice over a block of two ints. -/
def MPrw (a b : Int) : RC.MP GrownR := ⟨fun v w => ∃ q, v = .slice (some ⟨q, 0, none⟩) 2 2 ∧ Blk w q #[.int .i64 a, .int .i64 b] 3, fun _ _ _ ⟨q, h1, h2⟩ hr => ⟨q, h1, hr.blk h2⟩⟩
theorem bytes_compare (a b : ByteArray) (w : World) : Calls Tryd.prog 28 #[.string a, .string b] w fun e w' => e = .returned (.int .i64 (strC a b)) ∧ w = w' :=
  (Tryd.strings_Compare a b w).mono fun e w' h => ⟨h.1, h.2.symm⟩
set_option maxRecDepth 100000 in
set_option maxHeartbeats 4000000 in
theorem prcmp_any (x y : Pr) (w : World) : Calls Tryd.prog 26 #[.agg #[.string x.1, .string x.2], .agg #[.string y.1, .string y.2]] w fun e w' => e = .returned (.int .i64 (prC x y)) ∧ GrownR w w' := by
  obtain ⟨x1, x2⟩ := x
  obtain ⟨y1, y2⟩ := y
  show Calls Tryd.prog 26 #[.agg #[.string x1, .string x2], .agg #[.string y1, .string y2]] w fun e w' => e = .returned (.int .i64 (if strC x1 y1 != 0 then strC x1 y1 else strC x2 y2)) ∧ GrownR w w'
  obtain ⟨p, hp⟩ : ∃ p, strC x1 y1 = p := ⟨_, rfl⟩
  obtain ⟨q, hq⟩ : ∃ q, strC x2 y2 = q := ⟨_, rfl⟩
  have C1 := Lib.hid (fun w' => bytes_compare x1 y1 w')
  have C2 := Lib.hid (fun w' => bytes_compare x2 y2 w')
  rw [hp] at C1
  rw [hq] at C2
  rw [hp, hq]
  obtain ⟨r, hr⟩ : ∃ r, (if p != 0 then p else q) = r := ⟨_, rfl⟩
  have CO := Lib.hid (fun b w' hB => or_two p q b w' hB)
  rw [hr] at CO
  rw [hr]
  clear hp hq hr
  go_enter Tryd.func26, Tryd.ntmps26
  go_wp2_with fail
  have BA : Blk ((w.alloc (.cells #[.string x1, .string x2] 33)).alloc (.cells #[.string y1, .string y2] 33)) w.heap.size #[.string x1, .string x2] 33 := (Blk.new _ _ _).alloc _
  have BB : Blk ((w.alloc (.cells #[.string x1, .string x2] 33)).alloc (.cells #[.string y1, .string y2] 33)) (w.heap.size + 1) #[.string y1, .string y2] 33 := by
    have := Blk.new (w.alloc (.cells #[.string x1, .string x2] 33)) #[.string y1, .string y2] 33
    simpa using this
  have hw1 : GrownR w ((w.alloc (.cells #[.string x1, .string x2] 33)).alloc (.cells #[.string y1, .string y2] 33)) := (GrownR.alloc _ _).trans (GrownR.alloc _ _)
  generalize (w.alloc (.cells #[.string x1, .string x2] 33)).alloc (.cells #[.string y1, .string y2] 33) = W at *
  have kA := BA.lt
  have kB := BB.lt
  obtain ⟨⟨a0, a1⟩, -⟩ := BA.two2
  obtain ⟨⟨b0, b1⟩, -⟩ := BB.two2
  refine RC.region_steps (R := GrownR) 13 [some 5, some 6, some 7, some 8, some 9, some 10, some 11, some 12, some 13, some 14, some 15, some 16, some 4] (fun _ _ => True) (fun a b c h1 h2 => h1.trans h2) GrownR.drew (fun _ => trivial) (by kernel_rfl) (by kernel_rfl) ?_
  -- 0: Op.fieldAddr 33 (Operand.tmp 2) 0
  apply RC.ls_val (fun _ _ _ _ _ _ => trivial)
  · intro x w' hb hpre K hK
    have z0 := hb.cell kA a0
    have z1 := hb.cell kA a1
    have t0 := hb.cell kB b0
    have t1 := hb.cell kB b1
    clear hpre
    simp only [frL, Act.put, List.setIfInBounds_toArray, List.set_cons_zero, List.set_cons_succ, Nat.zero_add, Nat.reduceAdd] at hK ⊢
    have HK := Lib.hid hK
    clear hK
    refine Held.mk ?_
    go_simp
    exact HK.out _ (GrownR.refl _)
  -- 1: Op.load 9 (Operand.tmp 5)
  apply RC.ls_val (fun _ _ _ _ _ _ => trivial)
  · intro x w' hb hpre K hK
    have z0 := hb.cell kA a0
    have z1 := hb.cell kA a1
    have t0 := hb.cell kB b0
    have t1 := hb.cell kB b1
    simp [preds, Region.binds, RC.phi, RC.MP.val] at hpre
    simp only [frL, Act.put, List.setIfInBounds_toArray, List.set_cons_zero, List.set_cons_succ, Nat.zero_add, Nat.reduceAdd, hpre] at hK ⊢
    have HK := Lib.hid hK
    clear hK
    refine Held.mk ?_
    go_simp
    exact HK.out _ (GrownR.refl _)
  -- 2: Op.fieldAddr 33 (Operand.tmp 3) 0
  apply RC.ls_val (fun _ _ _ _ _ _ => trivial)
  · intro x w' hb hpre K hK
    have z0 := hb.cell kA a0
    have z1 := hb.cell kA a1
    have t0 := hb.cell kB b0
    have t1 := hb.cell kB b1
    clear hpre
    simp only [frL, Act.put, List.setIfInBounds_toArray, List.set_cons_zero, List.set_cons_succ, Nat.zero_add, Nat.reduceAdd] at hK ⊢
    have HK := Lib.hid hK
    clear hK
    refine Held.mk ?_
    go_simp
    exact HK.out _ (GrownR.refl _)
  -- 3: Op.load 9 (Operand.tmp 7)
  apply RC.ls_val (fun _ _ _ _ _ _ => trivial)
  · intro x w' hb hpre K hK
    have z0 := hb.cell kA a0
    have z1 := hb.cell kA a1
    have t0 := hb.cell kB b0
    have t1 := hb.cell kB b1
    simp [preds, Region.binds, RC.phi, RC.MP.val] at hpre
    simp only [frL, Act.put, List.setIfInBounds_toArray, List.set_cons_zero, List.set_cons_succ, Nat.zero_add, Nat.reduceAdd, hpre] at hK ⊢
    have HK := Lib.hid hK
    clear hK
    refine Held.mk ?_
    go_simp
    exact HK.out _ (GrownR.refl _)
  -- 4: Op.call { callee := Callee.value (Operand.func 28), args := #[Operand.tmp 6, Ope
  apply RC.ls_val (fun _ _ _ _ _ _ => trivial)
  · intro x w' hb hpre K hK
    have z0 := hb.cell kA a0
    have z1 := hb.cell kA a1
    have t0 := hb.cell kB b0
    have t1 := hb.cell kB b1
    simp [preds, Region.binds, RC.phi, RC.MP.val] at hpre
    simp only [frL, Act.put, List.setIfInBounds_toArray, List.set_cons_zero, List.set_cons_succ, Nat.zero_add, Nat.reduceAdd, hpre] at hK ⊢
    have HK := Lib.hid hK
    clear hK
    refine Held.mk ?_
    go_simp
    (with_reducible refine (C1.out _).mono ?_)
    rintro e w1 ⟨rfl, rfl⟩
    dsimp only
    exact HK.out _ (GrownR.refl _)
  -- 5: Op.fieldAddr 33 (Operand.tmp 2) 1
  apply RC.ls_val (fun _ _ _ _ _ _ => trivial)
  · intro x w' hb hpre K hK
    have z0 := hb.cell kA a0
    have z1 := hb.cell kA a1
    have t0 := hb.cell kB b0
    have t1 := hb.cell kB b1
    clear hpre
    simp only [frL, Act.put, List.setIfInBounds_toArray, List.set_cons_zero, List.set_cons_succ, Nat.zero_add, Nat.reduceAdd] at hK ⊢
    have HK := Lib.hid hK
    clear hK
    refine Held.mk ?_
    go_simp
    exact HK.out _ (GrownR.refl _)
  -- 6: Op.load 9 (Operand.tmp 10)
  apply RC.ls_val (fun _ _ _ _ _ _ => trivial)
  · intro x w' hb hpre K hK
    have z0 := hb.cell kA a0
    have z1 := hb.cell kA a1
    have t0 := hb.cell kB b0
    have t1 := hb.cell kB b1
    simp [preds, Region.binds, RC.phi, RC.MP.val] at hpre
    simp only [frL, Act.put, List.setIfInBounds_toArray, List.set_cons_zero, List.set_cons_succ, Nat.zero_add, Nat.reduceAdd, hpre] at hK ⊢
    have HK := Lib.hid hK
    clear hK
    refine Held.mk ?_
    go_simp
    exact HK.out _ (GrownR.refl _)
  -- 7: Op.fieldAddr 33 (Operand.tmp 3) 1
  apply RC.ls_val (fun _ _ _ _ _ _ => trivial)
  · intro x w' hb hpre K hK
    have z0 := hb.cell kA a0
    have z1 := hb.cell kA a1
    have t0 := hb.cell kB b0
    have t1 := hb.cell kB b1
    clear hpre
    simp only [frL, Act.put, List.setIfInBounds_toArray, List.set_cons_zero, List.set_cons_succ, Nat.zero_add, Nat.reduceAdd] at hK ⊢
    have HK := Lib.hid hK
    clear hK
    refine Held.mk ?_
    go_simp
    exact HK.out _ (GrownR.refl _)
  -- 8: Op.load 9 (Operand.tmp 12)
  apply RC.ls_val (fun _ _ _ _ _ _ => trivial)
  · intro x w' hb hpre K hK
    have z0 := hb.cell kA a0
    have z1 := hb.cell kA a1
    have t0 := hb.cell kB b0
    have t1 := hb.cell kB b1
    simp [preds, Region.binds, RC.phi, RC.MP.val] at hpre
    simp only [frL, Act.put, List.setIfInBounds_toArray, List.set_cons_zero, List.set_cons_succ, Nat.zero_add, Nat.reduceAdd, hpre] at hK ⊢
    have HK := Lib.hid hK
    clear hK
    refine Held.mk ?_
    go_simp
    exact HK.out _ (GrownR.refl _)
  -- 9: Op.call { callee := Callee.value (Operand.func 28), args := #[Operand.tmp 11, Op
  apply RC.ls_val (fun _ _ _ _ _ _ => trivial)
  · intro x w' hb hpre K hK
    have z0 := hb.cell kA a0
    have z1 := hb.cell kA a1
    have t0 := hb.cell kB b0
    have t1 := hb.cell kB b1
    simp [preds, Region.binds, RC.phi, RC.MP.val] at hpre
    simp only [frL, Act.put, List.setIfInBounds_toArray, List.set_cons_zero, List.set_cons_succ, Nat.zero_add, Nat.reduceAdd, hpre] at hK ⊢
    have HK := Lib.hid hK
    clear hK
    refine Held.mk ?_
    go_simp
    (with_reducible refine (C2.out _).mono ?_)
    rintro e w1 ⟨rfl, rfl⟩
    dsimp only
    exact HK.out _ (GrownR.refl _)
  -- 10: Op.buildSlice 77 2 #[(0, Operand.tmp 9), (1, Operand.tmp 14)]
  refine RC.ls_gen (MPrw p q) ?_ ?_
  · intro x w' hb hj hpre K hK
    have p0 := hpre.1 rfl
    have p1 := hpre.2.1 rfl
    clear hpre
    simp [RC.phi, RC.MP.val] at p0
    simp [RC.phi, RC.MP.val] at p1
    simp only [frL, Act.put, List.setIfInBounds_toArray, List.set_cons_zero, List.set_cons_succ, Nat.zero_add, Nat.reduceAdd, p0, p1] at hK ⊢
    have HK := Lib.hid hK
    clear hK
    refine Held.mk ?_
    go_simp
    exact HK.out _ _ ⟨_, rfl, Blk.new _ _ _⟩ trivial (GrownR.alloc _ _)
  -- 11: Op.call { callee := Callee.value (Operand.func 27), args := #[Operand.tmp 15], a
  refine RC.ls_gen (.val (.int .i64 r)) ?_ ?_
  · intro x w' hb hj hpre K hK
    have p0 := hpre.1 rfl
    clear hpre
    simp [RC.phi, MPrw] at p0
    obtain ⟨q9, hq9, hB9⟩ := p0
    simp only [frL, Act.put, List.setIfInBounds_toArray, List.set_cons_zero, List.set_cons_succ, Nat.zero_add, Nat.reduceAdd, hq9] at hK ⊢
    have HK := Lib.hid hK
    clear hK
    refine Held.mk ?_
    go_simp
    with_reducible refine (CO.out _ _ hB9).mono ?_
    rintro e w1 ⟨rfl, rfl⟩
    dsimp only
    exact HK.out _ _ rfl trivial (GrownR.refl _)
  -- 12: Op.assign (Operand.tmp 16)
  refine RC.ls_gen (.val (.int .i64 r)) ?_ ?_
  · intro x w' hb hj hpre K hK
    have p0 := hpre.1 rfl
    clear hpre
    simp [RC.phi, RC.MP.val] at p0
    simp only [frL, Act.put, List.setIfInBounds_toArray, List.set_cons_zero, List.set_cons_succ, Nat.zero_add, Nat.reduceAdd, p0] at hK ⊢
    have HK := Lib.hid hK
    clear hK
    refine Held.mk ?_
    go_simp
    exact HK.out _ _ rfl trivial (GrownR.refl _)
  intro x w' hb hp hJ
  simp only [List.cons_append, List.nil_append, RC.phis, RC.MP.val, frL, Act.put, List.setIfInBounds_toArray, List.set_cons_zero, List.set_cons_succ, Nat.zero_add, Nat.reduceAdd] at hp ⊢
  obtain ⟨h0, h1, h2, h3, h4, h5, h6, h7, h8, h9, h10, h11, h12, -⟩ := hp
  simp only [h0, h1, h2, h3, h4, h5, h6, h7, h8, h9]
  clear h0 h1 h2 h3 h4 h5 h6 h7 h8 h9
  obtain ⟨q9, e9, -⟩ : ∃ q9, x 10 = .slice (some ⟨q9, 0, none⟩) 2 2 ∧ Blk w' q9 #[.int .i64 p, .int .i64 q] 3 := h10
  have e11 : x 11 = .int .i64 r := h11
  have e12 : x 12 = .int .i64 r := h12
  simp only [e9, e11, e12]
  show wpList Tryd.prog _ _ [] _ _
  go_wp2_with fail
  go_returns
  exact ⟨rfl, hw1.trans hb⟩
end Go.Proofs.YtgdbbocfiejlfaaDoor

/- Texts put together: LdI, LdJ, LdK. -/
import Derived.Test.YtfagfkfcokmclaaGreatDoorZLdF
section
set_option linter.unusedSimpArgs false
set_option linter.unusedVariables false
set_option linter.constructorNameAsVariable false
namespace Go.Proofs.YtfagfkfcokmclaaGreatDoor
open Go.RowKit Go.Sort

theorem OwnV.other {w : World} {base : Nat} {v : Value} {xs : List At} (h : OwnV base w v xs) {p : Addr} (hp : p.block < base) (u : Value) : OwnV base (w.setCell p u) v xs := by
  refine ⟨h.1, ?_⟩
  rcases h.2 with h0 | ⟨g, cap, cur, rfl, h1, h2, h3, h4, h5, h6⟩
  · exact .inl h0
  · have hB : Blk w g cur 24 := h2
    exact .inr ⟨g, cap, cur, rfl, h1, (show Blk (w.setCell p u) g cur 24 from Blk.other hB (by omega) u), h3, h4, h5, h6⟩
theorem cell_other {w : World} {p a : Addr} {v : Value} (h : p.block ≠ a.block) : (w.setCell a v).cell? p = w.cell? p := World.cell?_of_block (Below.heap_setCell _ _ _ _ h)
/-- Five cells are put into a box: what lies elsewhere lies on. -/
theorem put5_keep {w0 w : World} {n0 base q p k ab ao : Nat} {v u : Value} {xs : List At} {cs : Array Value} {t t' : TypeId} {c1 c2 c3 c4 c5 : Value} (y1 y2 y3 y4 y5 : Value)
    (hO : OwnV base w v xs) (hq : q < base) (hB : Blk w p cs t') (hp : p ≠ q) (hW : Below n0 w0 w) (hn : n0 ≤ q) (hD : Blk w q #[c1, c2, c3, c4, c5] t) (hc : w.cell? ⟨ab, ao, none⟩ = some u) (ha : ab ≠ q) (hs : k ≤ w.heap.size) :
    OwnV base (((((w.setCell ⟨q, 0, none⟩ y1).setCell ⟨q, 1, none⟩ y2).setCell ⟨q, 2, none⟩ y3).setCell ⟨q, 3, none⟩ y4).setCell ⟨q, 4, none⟩ y5) v xs ∧
    Blk (((((w.setCell ⟨q, 0, none⟩ y1).setCell ⟨q, 1, none⟩ y2).setCell ⟨q, 2, none⟩ y3).setCell ⟨q, 3, none⟩ y4).setCell ⟨q, 4, none⟩ y5) p cs t' ∧
    Below n0 w0 (((((w.setCell ⟨q, 0, none⟩ y1).setCell ⟨q, 1, none⟩ y2).setCell ⟨q, 2, none⟩ y3).setCell ⟨q, 3, none⟩ y4).setCell ⟨q, 4, none⟩ y5) ∧
    Blk (((((w.setCell ⟨q, 0, none⟩ y1).setCell ⟨q, 1, none⟩ y2).setCell ⟨q, 2, none⟩ y3).setCell ⟨q, 3, none⟩ y4).setCell ⟨q, 4, none⟩ y5) q #[y1, y2, y3, y4, y5] t ∧
    (((((w.setCell ⟨q, 0, none⟩ y1).setCell ⟨q, 1, none⟩ y2).setCell ⟨q, 2, none⟩ y3).setCell ⟨q, 3, none⟩ y4).setCell ⟨q, 4, none⟩ y5).cell? ⟨ab, ao, none⟩ = some u ∧
    k ≤ (((((w.setCell ⟨q, 0, none⟩ y1).setCell ⟨q, 1, none⟩ y2).setCell ⟨q, 2, none⟩ y3).setCell ⟨q, 3, none⟩ y4).setCell ⟨q, 4, none⟩ y5).heap.size ∧
    ab < (((((w.setCell ⟨q, 0, none⟩ y1).setCell ⟨q, 1, none⟩ y2).setCell ⟨q, 2, none⟩ y3).setCell ⟨q, 3, none⟩ y4).setCell ⟨q, 4, none⟩ y5).heap.size := by
  refine ⟨((((hO.other hq _).other hq _).other hq _).other hq _).other hq _, ((((hB.other hp _).other hp _).other hp _).other hp _).other hp _, ((((hW.setCell hn _).setCell hn _).setCell hn _).setCell hn _).setCell hn _, ((((hD.set 0 _).set 1 _).set 2 _).set 3 _).set 4 _, ?_, by simpa using hs, by simpa using World.block_lt_of_cell? w _ hc⟩
  rw [cell_other ha, cell_other ha, cell_other ha, cell_other ha, cell_other ha]
  exact hc
def MPto (B : Nat) (xs : List At) : RC.MP RG := ⟨fun v w => ∃ u, v = .tuple #[u, .int .i64 0] ∧ OwnV B w u xs, fun v w w' ⟨u, h1, h2⟩ hr => ⟨u, h1, h2.on hr⟩⟩
def MPso (B : Nat) (xs : List At) : RC.MP RG := ⟨fun v w => OwnV B w v xs, fun v w w' h hr => h.on hr⟩
set_option maxRecDepth 100000 in
set_option maxHeartbeats 800000 in
theorem catoms_own (xs : List At) (ab ao n cc : Nat) (i : Nat) (a : Option Addr) (c : Nat) (w : World) (hI : ItRow w a xs) (hl : xs.length ≤ 100000000) (hsz : sumT xs ≤ 65536) (hi : i < n) (hn : n ≤ 1000000) (hab : ab < w.heap.size) (hc : w.cell? ⟨ab, ao + i, none⟩ = some (.slice a xs.length c)) :
    Calls Tryz.prog 32 #[.agg #[.pointer none, .slice (some ⟨ab, ao, none⟩) n cc], .int .i64 (i : Int)] w fun e w' => ∃ v, e = .returned v ∧ OwnV w.heap.size w' v xs ∧ Below w.heap.size w w' := by
  have hb0 : Below w.heap.size w (w.alloc (.cells #[.pointer none, .slice (some ⟨ab, ao, none⟩) n cc] 51)) := (Below.refl _ _).alloc (Nat.le_refl _) _
  have B0 : Blk (w.alloc (.cells #[.pointer none, .slice (some ⟨ab, ao, none⟩) n cc] 51)) w.heap.size #[.pointer none, .slice (some ⟨ab, ao, none⟩) n cc] 51 := Blk.new _ _ _
  have hc1 := (hb0.cell (p := ⟨ab, ao + i, none⟩) hab).trans hc
  have hI1 := hI.on hb0
  have i6 : (i : Int) < (n : Int) := by omega
  have hj0 : (0 : Int) ≤ (i : Int) := Int.natCast_nonneg _
  clear hI hc
  go_enter Tryz.func32, Tryz.ntmps32
  go_wp2_with fail
  generalize w.alloc (.cells #[.pointer none, .slice (some ⟨ab, ao, none⟩) n cc] 51) = W at *
  have c0 : W.cell? ⟨w.heap.size, 0, none⟩ = some (.pointer none) := B0.cell 0
  have c1 : W.cell? ⟨w.heap.size, 1, none⟩ = some (.slice (some ⟨ab, ao, none⟩) n cc) := B0.cell 1
  have kB := B0.lt
  have kA := Nat.lt_of_lt_of_le hab hb0.size
  have HI := Lib.hid hI1
  have HC := Lib.hid (fun (V : World) (hV : RG W V) => values_any xs (.pointer none) a c V (hI1.on hV) hl hsz)
  clear B0 hI1
  refine RC.region_steps (R := RG) 11 [some 5, some 6, some 7, some 8, some 9, some 10, some 11, some 12, some 13, some 14, some 15] (fun _ _ => True) (fun a b c h1 h2 => h1.trans (h2.mono h1.size)) (fun w => below_drewN (Below.refl _ w) 1) (fun _ => trivial) (by kernel_rfl) (by kernel_rfl) ?_
  -- 0: Op.fieldAddr 51 (Operand.tmp 2) 0
  apply RC.ls_val (fun _ _ _ _ _ _ => trivial)
  · intro x w' hb hpre K hK
    have z0 := (hb.cell (p := ⟨w.heap.size, 0, none⟩) kB).trans c0
    have z1 := (hb.cell (p := ⟨w.heap.size, 1, none⟩) kB).trans c1
    have z2 := (hb.cell (p := ⟨ab, ao + i, none⟩) kA).trans hc1
    have zs := hb.size
    clear hpre
    simp only [frL, Act.put, List.setIfInBounds_toArray, List.set_cons_zero, List.set_cons_succ, Nat.zero_add, Nat.reduceAdd] at hK ⊢
    have HK := Lib.hid hK
    clear hK
    refine Held.mk ?_
    go_simp
    exact HK.out _ (Below.refl _ _)
  -- 1: Op.load 46 (Operand.tmp 5)
  apply RC.ls_val (fun _ _ _ _ _ _ => trivial)
  · intro x w' hb hpre K hK
    have z0 := (hb.cell (p := ⟨w.heap.size, 0, none⟩) kB).trans c0
    have z1 := (hb.cell (p := ⟨w.heap.size, 1, none⟩) kB).trans c1
    have z2 := (hb.cell (p := ⟨ab, ao + i, none⟩) kA).trans hc1
    have zs := hb.size
    simp [preds, Region.binds, RC.phi, RC.MP.val] at hpre
    simp only [frL, Act.put, List.setIfInBounds_toArray, List.set_cons_zero, List.set_cons_succ, Nat.zero_add, Nat.reduceAdd, hpre] at hK ⊢
    have HK := Lib.hid hK
    clear hK
    refine Held.mk ?_
    go_simp
    exact HK.out _ (Below.refl _ _)
  -- 2: Op.fieldAddr 51 (Operand.tmp 2) 1
  apply RC.ls_val (fun _ _ _ _ _ _ => trivial)
  · intro x w' hb hpre K hK
    have z0 := (hb.cell (p := ⟨w.heap.size, 0, none⟩) kB).trans c0
    have z1 := (hb.cell (p := ⟨w.heap.size, 1, none⟩) kB).trans c1
    have z2 := (hb.cell (p := ⟨ab, ao + i, none⟩) kA).trans hc1
    have zs := hb.size
    clear hpre
    simp only [frL, Act.put, List.setIfInBounds_toArray, List.set_cons_zero, List.set_cons_succ, Nat.zero_add, Nat.reduceAdd] at hK ⊢
    have HK := Lib.hid hK
    clear hK
    refine Held.mk ?_
    go_simp
    exact HK.out _ (Below.refl _ _)
  -- 3: Op.load 47 (Operand.tmp 7)
  apply RC.ls_val (fun _ _ _ _ _ _ => trivial)
  · intro x w' hb hpre K hK
    have z0 := (hb.cell (p := ⟨w.heap.size, 0, none⟩) kB).trans c0
    have z1 := (hb.cell (p := ⟨w.heap.size, 1, none⟩) kB).trans c1
    have z2 := (hb.cell (p := ⟨ab, ao + i, none⟩) kA).trans hc1
    have zs := hb.size
    simp [preds, Region.binds, RC.phi, RC.MP.val] at hpre
    simp only [frL, Act.put, List.setIfInBounds_toArray, List.set_cons_zero, List.set_cons_succ, Nat.zero_add, Nat.reduceAdd, hpre] at hK ⊢
    have HK := Lib.hid hK
    clear hK
    refine Held.mk ?_
    go_simp
    exact HK.out _ (Below.refl _ _)
  -- 4: Op.move (Operand.tmp 1)
  apply RC.ls_val (fun _ _ _ _ _ _ => trivial)
  · intro x w' hb hpre K hK
    have z0 := (hb.cell (p := ⟨w.heap.size, 0, none⟩) kB).trans c0
    have z1 := (hb.cell (p := ⟨w.heap.size, 1, none⟩) kB).trans c1
    have z2 := (hb.cell (p := ⟨ab, ao + i, none⟩) kA).trans hc1
    have zs := hb.size
    clear hpre
    simp only [frL, Act.put, List.setIfInBounds_toArray, List.set_cons_zero, List.set_cons_succ, Nat.zero_add, Nat.reduceAdd] at hK ⊢
    have HK := Lib.hid hK
    clear hK
    refine Held.mk ?_
    go_simp
    exact HK.out _ (Below.refl _ _)
  -- 5: Op.indexAddr 47 (Operand.tmp 8) (Operand.tmp 9)
  apply RC.ls_val (fun _ _ _ _ _ _ => trivial)
  · intro x w' hb hpre K hK
    have z0 := (hb.cell (p := ⟨w.heap.size, 0, none⟩) kB).trans c0
    have z1 := (hb.cell (p := ⟨w.heap.size, 1, none⟩) kB).trans c1
    have z2 := (hb.cell (p := ⟨ab, ao + i, none⟩) kA).trans hc1
    have zs := hb.size
    simp [preds, Region.binds, RC.phi, RC.MP.val] at hpre
    simp only [frL, Act.put, List.setIfInBounds_toArray, List.set_cons_zero, List.set_cons_succ, Nat.zero_add, Nat.reduceAdd, hpre] at hK ⊢
    have HK := Lib.hid hK
    clear hK
    refine Held.mk ?_
    go_simp
    exact HK.out _ (Below.refl _ _)
  -- 6: Op.load 29 (Operand.tmp 10)
  apply RC.ls_val (fun _ _ _ _ _ _ => trivial)
  · intro x w' hb hpre K hK
    have z0 := (hb.cell (p := ⟨w.heap.size, 0, none⟩) kB).trans c0
    have z1 := (hb.cell (p := ⟨w.heap.size, 1, none⟩) kB).trans c1
    have z2 := (hb.cell (p := ⟨ab, ao + i, none⟩) kA).trans hc1
    have zs := hb.size
    simp [preds, Region.binds, RC.phi, RC.MP.val] at hpre
    simp only [frL, Act.put, List.setIfInBounds_toArray, List.set_cons_zero, List.set_cons_succ, Nat.zero_add, Nat.reduceAdd, hpre] at hK ⊢
    have HK := Lib.hid hK
    clear hK
    refine Held.mk ?_
    go_simp
    exact HK.out _ (Below.refl _ _)
  -- 7: Op.call { callee := Callee.value (Operand.func 67), args := #[Operand.tmp 6, Ope
  refine RC.ls_gen (MPto w.heap.size xs) ?_ ?_
  · intro x w' hb hj hpre K hK
    have p0 := hpre.1 rfl
    have p1 := hpre.2.1 rfl
    clear hpre
    simp [RC.phi, RC.MP.val] at p0 p1
    simp only [frL, Act.put, List.setIfInBounds_toArray, List.set_cons_zero, List.set_cons_succ, Nat.zero_add, Nat.reduceAdd, p0, p1] at hK ⊢
    have HK := Lib.hid hK
    clear hK
    refine Held.mk ?_
    go_simp
    with_reducible refine (HC.out w' hb).mono ?_
    rintro e w1 ⟨v, rfl, h1, hb1⟩
    dsimp only
    exact HK.out _ _ ⟨_, rfl, h1.low (Nat.le_trans hb0.size hb.size)⟩ trivial hb1
  -- 8: Op.extract (Operand.tmp 12) 0
  refine RC.ls_gen (MPso w.heap.size xs) ?_ ?_
  · intro x w' hb hj hpre K hK
    obtain ⟨u9, p0, h2⟩ : ∃ u, x 7 = .tuple #[u, .int .i64 0] ∧ OwnV w.heap.size w' u xs := hpre.1 rfl
    clear hpre
    simp only [frL, Act.put, List.setIfInBounds_toArray, List.set_cons_zero, List.set_cons_succ, Nat.zero_add, Nat.reduceAdd, p0] at hK ⊢
    have HK := Lib.hid hK
    clear hK
    refine Held.mk ?_
    go_simp
    exact HK.out _ _ h2 trivial (Below.refl _ _)
  -- 9: Op.extract (Operand.tmp 12) 1
  refine RC.ls_gen (RC.MP.val (.int .i64 0)) ?_ ?_
  · intro x w' hb hj hpre K hK
    obtain ⟨u9, p0, h2⟩ : ∃ u, x 7 = .tuple #[u, .int .i64 0] ∧ OwnV w.heap.size w' u xs := hpre.1 rfl
    clear hpre
    simp only [frL, Act.put, List.setIfInBounds_toArray, List.set_cons_zero, List.set_cons_succ, Nat.zero_add, Nat.reduceAdd, p0] at hK ⊢
    have HK := Lib.hid hK
    clear hK
    refine Held.mk ?_
    go_simp
    exact HK.out _ _ rfl trivial (Below.refl _ _)
  -- 10: Op.call { callee := Callee.value (Operand.func 66), args := #[Operand.tmp 13, Op
  refine RC.ls_gen (MPso w.heap.size xs) ?_ ?_
  · intro x w' hb hj hpre K hK
    have h2 : OwnV w.heap.size w' (x 8) xs := hpre.1 rfl
    have p1 : x 9 = .int .i64 0 := hpre.2.1 rfl
    clear hpre
    simp only [frL, Act.put, List.setIfInBounds_toArray, List.set_cons_zero, List.set_cons_succ, Nat.zero_add, Nat.reduceAdd, p1] at hK ⊢
    have HK := Lib.hid hK
    clear hK
    refine Held.mk ?_
    go_simp
    with_reducible refine (must_row _ w').mono ?_
    rintro e w1 ⟨rfl, rfl⟩
    dsimp only
    exact HK.out _ _ h2 trivial (Below.refl _ _)
  intro x w' hb hp hJ
  simp only [List.cons_append, List.nil_append, RC.phis, RC.MP.val, frL, Act.put, List.setIfInBounds_toArray, List.set_cons_zero, List.set_cons_succ, Nat.zero_add, Nat.reduceAdd] at hp ⊢
  obtain ⟨h0, h1, h2, h3, h4, h5, h6, h7, h8, h9, h10, -⟩ := hp
  simp only [h0, h1, h2, h3, h4, h5, h6]
  clear h0 h1 h2 h3 h4 h5 h6
  have hO9 : OwnV w.heap.size w' (x 10) xs := h10
  have hw9 : Below w.heap.size w w' := hb0.trans (hb.mono hb0.size)
  have HV := Lib.hid hO9
  clear h7 h8 h9 h10 hO9 hJ
  show wpList Tryz.prog _ _ [_] _ _
  go_wp2_with fail
  go_returns
  exact ⟨_, rfl, HV.out, hw9⟩
end Go.Proofs.YtfagfkfcokmclaaGreatDoor
end
section
set_option linter.unusedSimpArgs false
set_option linter.unusedVariables false
set_option linter.constructorNameAsVariable false
namespace Go.Proofs.YtfagfkfcokmclaaGreatDoor
open Go.RowKit Go.Sort

theorem cmpF_int (n m : Int) : cmpF n 0 m 0 = if n - m == 0 then 0 else if decide (n - m < 0) then -1 else 1 := by
  have h1 : lvl n 0 0 = n := by unfold lvl; simp
  have h2 : lvl m 0 0 = m := by unfold lvl; simp
  unfold cmpF
  rw [h1, h2]
theorem order_int (n m : Int) (hn : -1000000 ≤ n ∧ n ≤ 1000000) (hm : -1000000 ≤ m ∧ m ≤ 1000000) (w : World) :
    Calls Tryz.prog 87 #[.agg #[.int .i64 1, .int .i64 n, .int .i64 0, .string ⟨#[]⟩, .bool false], .agg #[.int .i64 1, .int .i64 m, .int .i64 0, .string ⟨#[]⟩, .bool false]] w fun e w' => e = .returned (.tuple #[.int .i64 (cmpF n 0 m 0), .int .i64 0]) ∧ Below w.heap.size w w' :=
  order_any (ofA n) (ofA m) (.int n ⟨by omega, by omega, by omega, by omega, fun h0 => by omega⟩) (.int m ⟨by omega, by omega, by omega, by omega, fun h0 => by omega⟩) w
theorem max_in (ns : List Int) (h : ns ≠ []) : ∃ M, M ∈ ns ∧ ∀ y ∈ ns, y ≤ M := by
  induction ns with
  | nil => exact absurd rfl h
  | cons p r ih =>
    by_cases hr : r = []
    · subst hr
      exact ⟨p, by simp, fun y hy => by simp at hy; omega⟩
    · obtain ⟨M, h1, h2⟩ := ih hr
      by_cases hp : p ≤ M
      · exact ⟨M, by simp [h1], fun y hy => by rcases List.mem_cons.1 hy with rfl | hy; exact hp; exact h2 y hy⟩
      · exact ⟨p, by simp, fun y hy => by rcases List.mem_cons.1 hy with rfl | hy; omega; have := h2 y hy; omega⟩
set_option maxRecDepth 100000 in
set_option maxHeartbeats 3200000 in
theorem cbest_any (ns : List Int) (M : Int) (hM : M ∈ ns) (hle : ∀ y ∈ ns, y ≤ M) (hx : ∀ x ∈ ns, -1000000 ≤ x ∧ x ≤ 1000000) (hl : ns.length ≤ 1000000) (ab ao cc : Nat) (w : World) (h : ArgR w ab ao 1 0 (ns.map ofA)) :
    Calls Tryz.prog 45 #[.agg #[.pointer none, .slice (some ⟨ab, ao, none⟩) 1 cc], .int .i64 1] w fun e w' => ∃ v, e = .returned v ∧ OwnI w.heap.size w' v [ofA M] ∧ Below w.heap.size w w' := by
  have hl0 : 0 < ns.length := List.length_pos_of_mem hM
  have hne : ¬ ns = [] := by intro h0; rw [h0] at hl0; simp at hl0
  have l0 : (0 : Int) < (ns.length : Int) := by omega
  have HX := Lib.hid (And.intro hM (And.intro hle hx))
  clear hM hle hx
  have CO := Lib.hid order_int
  have CF : Hid (∀ n m w, Calls Tryz.prog 86 #[.int .i64 n, .int .i64 m] w fun e w' => e = .returned (.int .i64 m) ∧ Below w.heap.size w w') := fun n m w => (first_any n m w).mono (by rintro e w' ⟨rfl, rfl⟩; exact ⟨rfl, Below.refl _ _⟩)
  have CM : Hid (∀ n w, Calls Tryz.prog 41 #[.agg #[.int .i64 1, .int .i64 n, .int .i64 0, .string ⟨#[]⟩, .bool false], .int .i64 0] w fun e w' => e = .returned (.agg #[.int .i64 1, .int .i64 n, .int .i64 0, .string ⟨#[]⟩, .bool false]) ∧ Below w.heap.size w w') := fun n w => must_atom 1 n 0 ⟨#[]⟩ false w
  have CI := Lib.hid must_int
  have hb0 : Below w.heap.size w ((w.alloc (.cells #[.pointer none, .slice (some ⟨ab, ao, none⟩) 1 cc] 51)).alloc (.cells #[.int .i64 0, .int .i64 0, .int .i64 0, .string ⟨#[]⟩, .bool false] 24)) := ((Below.refl _ _).alloc (Nat.le_refl _) _).alloc (by simp) _
  have B0 : Blk ((w.alloc (.cells #[.pointer none, .slice (some ⟨ab, ao, none⟩) 1 cc] 51)).alloc (.cells #[.int .i64 0, .int .i64 0, .int .i64 0, .string ⟨#[]⟩, .bool false] 24)) w.heap.size #[.pointer none, .slice (some ⟨ab, ao, none⟩) 1 cc] 51 := (Blk.new _ _ _).alloc _
  have B5 : Blk ((w.alloc (.cells #[.pointer none, .slice (some ⟨ab, ao, none⟩) 1 cc] 51)).alloc (.cells #[.int .i64 0, .int .i64 0, .int .i64 0, .string ⟨#[]⟩, .bool false] 24)) (w.heap.size + 1) #[.int .i64 0, .int .i64 0, .int .i64 0, .string ⟨#[]⟩, .bool false] 24 := by
    have := Blk.new (w.alloc (.cells #[.pointer none, .slice (some ⟨ab, ao, none⟩) 1 cc] 51)) #[.int .i64 0, .int .i64 0, .int .i64 0, .string ⟨#[]⟩, .bool false] 24
    simpa using this
  have hWs : ((w.alloc (.cells #[.pointer none, .slice (some ⟨ab, ao, none⟩) 1 cc] 51)).alloc (.cells #[.int .i64 0, .int .i64 0, .int .i64 0, .string ⟨#[]⟩, .bool false] 24)).heap.size = w.heap.size + 2 := by simp
  have C1 := Lib.hid (by
    obtain ⟨h1, h2, h3, ⟨a, c, h4, h5⟩, h6, h7⟩ := h.on hb0
    exact (⟨a, c, h4, catoms_own (ns.map ofA) ab ao 1 cc 0 a c _ h5 h7 h6 h1 h2 h3 h4⟩ : ∃ a c, ((w.alloc (.cells #[.pointer none, .slice (some ⟨ab, ao, none⟩) 1 cc] 51)).alloc (.cells #[.int .i64 0, .int .i64 0, .int .i64 0, .string ⟨#[]⟩, .bool false] 24)).cell? ⟨ab, ao + 0, none⟩ = some (.slice a (ns.map ofA).length c) ∧ Calls Tryz.prog 32 #[.agg #[.pointer none, .slice (some ⟨ab, ao, none⟩) 1 cc], .int .i64 ((0 : Nat) : Int)] ((w.alloc (.cells #[.pointer none, .slice (some ⟨ab, ao, none⟩) 1 cc] 51)).alloc (.cells #[.int .i64 0, .int .i64 0, .int .i64 0, .string ⟨#[]⟩, .bool false] 24)) fun e w' => ∃ v, e = .returned v ∧ OwnV ((w.alloc (.cells #[.pointer none, .slice (some ⟨ab, ao, none⟩) 1 cc] 51)).alloc (.cells #[.int .i64 0, .int .i64 0, .int .i64 0, .string ⟨#[]⟩, .bool false] 24)).heap.size w' v (ns.map ofA) ∧ Below ((w.alloc (.cells #[.pointer none, .slice (some ⟨ab, ao, none⟩) 1 cc] 51)).alloc (.cells #[.int .i64 0, .int .i64 0, .int .i64 0, .string ⟨#[]⟩, .bool false] 24)).heap.size ((w.alloc (.cells #[.pointer none, .slice (some ⟨ab, ao, none⟩) 1 cc] 51)).alloc (.cells #[.int .i64 0, .int .i64 0, .int .i64 0, .string ⟨#[]⟩, .bool false] 24)) w'))
  have hab := (h.on hb0).al
  have hab0 := h.al
  clear h
  obtain ⟨a9, c9, h9, C2⟩ := C1.out
  clear C1
  replace C2 := Lib.hid C2
  rw [List.length_map, Nat.add_zero] at h9
  simp only [Int.natCast_zero] at C2
  have H9 := Lib.hid (And.intro h9 hab)
  have HWS := Lib.hid hWs
  clear h9 hab hWs
  go_enter Tryz.func45, Tryz.ntmps45
  go_wp2_with fail
  generalize (w.alloc (.cells #[.pointer none, .slice (some ⟨ab, ao, none⟩) 1 cc] 51)).alloc (.cells #[.int .i64 0, .int .i64 0, .int .i64 0, .string ⟨#[]⟩, .bool false] 24) = W at *
  with_reducible refine C2.out.mono ?_
  rintro e w1 ⟨v, rfl, hO, hb1⟩
  obtain ⟨a1, c1, rfl, -, -⟩ := hO.readc
  rw [List.length_map] at hO
  have hw1 := hb0.trans (hb1.mono hb0.size)
  have k0 := B0.lt
  have k5 := B5.lt
  replace B0 := B0.below hb1 k0
  replace B5 := B5.below hb1 k5
  have hW1 := Lib.hid (hb1)
  have hss := hb1.size
  have HO := Lib.hid hO
  clear C2 hb1 hb0 k0 k5 hO
  try simp only [List.length_map]
  go_wp2_with fail
  go_loopg [12] (ns.length + 1) (fun m ii wr => ∃ j : Nat, j ≤ ns.length ∧ m + j = ns.length + 1 ∧ ii = .int .i64 (j : Int) ∧ OwnV W.heap.size wr (.slice a1 ns.length c1) (ns.map ofA) ∧ Blk wr w.heap.size #[.pointer none, .slice (some ⟨ab, ao, none⟩) 1 cc] 51 ∧ Below w.heap.size w wr ∧ W.heap.size ≤ wr.heap.size ∧ ((wr.cell? ⟨ab, ao, none⟩ = some (.slice a9 ns.length c9)) ∧ ab < wr.heap.size) ∧ ((j = 0 ∧ Blk wr (w.heap.size + 1) #[.int .i64 0, .int .i64 0, .int .i64 0, .string ⟨#[]⟩, .bool false] 24) ∨ (0 < j ∧ ∃ P, P ∈ ns.take j ∧ (∀ y ∈ ns.take j, y ≤ P) ∧ Blk wr (w.heap.size + 1) #[.int .i64 1, .int .i64 P, .int .i64 0, .string ⟨#[]⟩, .bool false] 24)))
  case atStart => exact ⟨0, by omega, by omega, rfl, HO.out, B0, hw1, hss, ⟨(hW1.out.cell (p := ⟨ab, ao, none⟩) H9.out.2).trans H9.out.1, Nat.lt_of_lt_of_le H9.out.2 hss⟩, .inl ⟨rfl, B5⟩⟩
  case round =>
    clear HO B0 B5 hw1 hW1 hss
    obtain ⟨j, hj, hmj, rfl, hO, B0, hw2, hss, ⟨h9, hab⟩, hD⟩ := hrel
    have hj0 : (0 : Int) ≤ (j : Int) := Int.natCast_nonneg _
    by_cases hlt : j < ns.length
    · have i0 : decide ((j : Int) < (ns.length : Int)) = true := by simp; omega
      have i6 : (j : Int) < (ns.length : Int) := by omega
      obtain ⟨xv, hjx⟩ : ∃ xv, ns[j]? = some xv := ⟨_, List.getElem?_eq_getElem hlt⟩
      obtain ⟨b, o, rfl, lb, v0, v1, v2, v3, v4⟩ : ∃ b o, a1 = some ⟨b, o, none⟩ ∧ b < wr.heap.size ∧ wr.cell? ⟨b, o + j * 5, none⟩ = some (.int .i64 1) ∧ wr.cell? ⟨b, o + j * 5 + 1, none⟩ = some (.int .i64 xv) ∧ wr.cell? ⟨b, o + j * 5 + 2, none⟩ = some (.int .i64 0) ∧ wr.cell? ⟨b, o + j * 5 + 3, none⟩ = some (.string ⟨#[]⟩) ∧ wr.cell? ⟨b, o + j * 5 + 4, none⟩ = some (.bool false) := by
        obtain ⟨a2, c2, he, hV, -⟩ := hO.readc
        injection he with e1 e2 e3
        subst e1
        rcases hV with h0 | ⟨b, o, rfl, hb, hcc⟩
        · exact absurd (List.map_eq_nil_iff.1 h0) hne
        · exact ⟨b, o, rfl, hb, hcc j (ofA xv) (by rw [List.getElem?_map, hjx]; rfl)⟩
      have hxb := HX.out.2.2 xv (List.mem_of_getElem? hjx)
      have hmem : ∀ y, y ∈ ns.take (j + 1) ↔ y ∈ ns.take j ∨ y = xv := fun y => by
        rw [List.take_add_one, hjx]
        simp
      have HMEM := Lib.hid hmem
      have D7 : Blk (wr.alloc (.cells #[.int .i64 1, .int .i64 xv, .int .i64 0, .string ⟨#[]⟩, .bool false] 24)) wr.heap.size #[.int .i64 1, .int .i64 xv, .int .i64 0, .string ⟨#[]⟩, .bool false] 24 := Blk.new _ _ _
      have hO1 := Lib.hid (hO.on ((Below.refl _ wr).alloc (Nat.le_refl _) (.cells #[.int .i64 1, .int .i64 xv, .int .i64 0, .string ⟨#[]⟩, .bool false] 24)))
      replace B0 := B0.alloc (.cells #[.int .i64 1, .int .i64 xv, .int .i64 0, .string ⟨#[]⟩, .bool false] 24)
      replace hw2 := hw2.alloc hw2.size (.cells #[.int .i64 1, .int .i64 xv, .int .i64 0, .string ⟨#[]⟩, .bool false] 24)
      have hc9 : (wr.alloc (.cells #[.int .i64 1, .int .i64 xv, .int .i64 0, .string ⟨#[]⟩, .bool false] 24)).cell? ⟨ab, ao, none⟩ = some (.slice a9 ns.length c9) := ((((Below.refl _ wr).alloc (Nat.le_refl _) _).cell (p := ⟨ab, ao, none⟩) hab)).trans h9
      have hss1 : W.heap.size ≤ (wr.alloc (.cells #[.int .i64 1, .int .i64 xv, .int .i64 0, .string ⟨#[]⟩, .bool false] 24)).heap.size := by simp; omega
      have hab1 : ab < (wr.alloc (.cells #[.int .i64 1, .int .i64 xv, .int .i64 0, .string ⟨#[]⟩, .bool false] 24)).heap.size := by simp; omega
      have KW : w.heap.size + 1 < W.heap.size := by have := HWS.out; omega
      clear hO h9 hab hjx hmem
      rcases hD with ⟨rfl, B5⟩ | ⟨hpos, P, hP, hPl, B5⟩
      · replace B5 := B5.alloc (.cells #[.int .i64 1, .int .i64 xv, .int .i64 0, .string ⟨#[]⟩, .bool false] 24)
        simp only [Nat.zero_mul, Nat.add_zero, Int.natCast_zero] at v0 v1 v2 v3 v4 i0 i6
        simp only [Int.natCast_zero]
        go_wp2_with fail
        clear v0 v1 v2 v3 v4 lb
        generalize (wr.alloc (.cells #[.int .i64 1, .int .i64 xv, .int .i64 0, .string ⟨#[]⟩, .bool false] 24)) = W5 at *
        obtain ⟨⟨u0, u1, u2, u3, u4⟩, -⟩ := D7.five
        have k7 := D7.lt
        refine RC.region_steps (R := RG) 8 [some 27, some 28, some 29, some 30, some 31, some 32, some 33, some 34] (fun _ _ => True) (fun a b c h1 h2 => h1.trans (h2.mono h1.size)) (fun w => below_drewN (Below.refl _ w) 1) (fun _ => trivial) (by kernel_rfl) (by kernel_rfl) ?_
        -- 0: Op.load 24 (Operand.tmp 7)
        apply RC.ls_val (fun _ _ _ _ _ _ => trivial)
        · intro x w' hb hpre K hK
          have z00 := (hb.cell (p := ⟨wr.heap.size, 0, none⟩) k7).trans u0
          have z01 := (hb.cell (p := ⟨wr.heap.size, 1, none⟩) k7).trans u1
          have z02 := (hb.cell (p := ⟨wr.heap.size, 2, none⟩) k7).trans u2
          have z03 := (hb.cell (p := ⟨wr.heap.size, 3, none⟩) k7).trans u3
          have z04 := (hb.cell (p := ⟨wr.heap.size, 4, none⟩) k7).trans u4
          have zs := hb.size
          clear hpre
          simp only [frL, Act.put, List.setIfInBounds_toArray, List.set_cons_zero, List.set_cons_succ, Nat.zero_add, Nat.reduceAdd] at hK ⊢
          have HK := Lib.hid hK
          clear hK
          refine Held.mk ?_
          go_simp
          exact HK.out _ (Below.refl _ _)
        -- 1: Op.load 24 (Operand.tmp 7)
        apply RC.ls_val (fun _ _ _ _ _ _ => trivial)
        · intro x w' hb hpre K hK
          have z00 := (hb.cell (p := ⟨wr.heap.size, 0, none⟩) k7).trans u0
          have z01 := (hb.cell (p := ⟨wr.heap.size, 1, none⟩) k7).trans u1
          have z02 := (hb.cell (p := ⟨wr.heap.size, 2, none⟩) k7).trans u2
          have z03 := (hb.cell (p := ⟨wr.heap.size, 3, none⟩) k7).trans u3
          have z04 := (hb.cell (p := ⟨wr.heap.size, 4, none⟩) k7).trans u4
          have zs := hb.size
          clear hpre
          simp only [frL, Act.put, List.setIfInBounds_toArray, List.set_cons_zero, List.set_cons_succ, Nat.zero_add, Nat.reduceAdd] at hK ⊢
          have HK := Lib.hid hK
          clear hK
          refine Held.mk ?_
          go_simp
          exact HK.out _ (Below.refl _ _)
        -- 2: Op.load 24 (Operand.tmp 7)
        apply RC.ls_val (fun _ _ _ _ _ _ => trivial)
        · intro x w' hb hpre K hK
          have z00 := (hb.cell (p := ⟨wr.heap.size, 0, none⟩) k7).trans u0
          have z01 := (hb.cell (p := ⟨wr.heap.size, 1, none⟩) k7).trans u1
          have z02 := (hb.cell (p := ⟨wr.heap.size, 2, none⟩) k7).trans u2
          have z03 := (hb.cell (p := ⟨wr.heap.size, 3, none⟩) k7).trans u3
          have z04 := (hb.cell (p := ⟨wr.heap.size, 4, none⟩) k7).trans u4
          have zs := hb.size
          clear hpre
          simp only [frL, Act.put, List.setIfInBounds_toArray, List.set_cons_zero, List.set_cons_succ, Nat.zero_add, Nat.reduceAdd] at hK ⊢
          have HK := Lib.hid hK
          clear hK
          refine Held.mk ?_
          go_simp
          exact HK.out _ (Below.refl _ _)
        -- 3: Op.call { callee := Callee.value (Operand.func 87), args := #[Operand.tmp 28, Op
        apply RC.ls_val (fun _ _ _ _ _ _ => trivial)
        · intro x w' hb hpre K hK
          have z00 := (hb.cell (p := ⟨wr.heap.size, 0, none⟩) k7).trans u0
          have z01 := (hb.cell (p := ⟨wr.heap.size, 1, none⟩) k7).trans u1
          have z02 := (hb.cell (p := ⟨wr.heap.size, 2, none⟩) k7).trans u2
          have z03 := (hb.cell (p := ⟨wr.heap.size, 3, none⟩) k7).trans u3
          have z04 := (hb.cell (p := ⟨wr.heap.size, 4, none⟩) k7).trans u4
          have zs := hb.size
          simp [preds, Region.binds, RC.phi, RC.MP.val] at hpre
          simp only [frL, Act.put, List.setIfInBounds_toArray, List.set_cons_zero, List.set_cons_succ, Nat.zero_add, Nat.reduceAdd, hpre] at hK ⊢
          have HK := Lib.hid hK
          clear hK
          refine Held.mk ?_
          go_simp
          (with_reducible refine (CO.out xv xv (by omega) (by omega) _).mono ?_)
          rintro e w1 ⟨rfl, hb1⟩
          dsimp only
          exact HK.out _ hb1
        -- 4: Op.extract (Operand.tmp 30) 0
        apply RC.ls_val (fun _ _ _ _ _ _ => trivial)
        · intro x w' hb hpre K hK
          have z00 := (hb.cell (p := ⟨wr.heap.size, 0, none⟩) k7).trans u0
          have z01 := (hb.cell (p := ⟨wr.heap.size, 1, none⟩) k7).trans u1
          have z02 := (hb.cell (p := ⟨wr.heap.size, 2, none⟩) k7).trans u2
          have z03 := (hb.cell (p := ⟨wr.heap.size, 3, none⟩) k7).trans u3
          have z04 := (hb.cell (p := ⟨wr.heap.size, 4, none⟩) k7).trans u4
          have zs := hb.size
          simp [preds, Region.binds, RC.phi, RC.MP.val] at hpre
          simp only [frL, Act.put, List.setIfInBounds_toArray, List.set_cons_zero, List.set_cons_succ, Nat.zero_add, Nat.reduceAdd, hpre] at hK ⊢
          have HK := Lib.hid hK
          clear hK
          refine Held.mk ?_
          go_simp
          exact HK.out _ (Below.refl _ _)
        -- 5: Op.extract (Operand.tmp 30) 1
        apply RC.ls_val (fun _ _ _ _ _ _ => trivial)
        · intro x w' hb hpre K hK
          have z00 := (hb.cell (p := ⟨wr.heap.size, 0, none⟩) k7).trans u0
          have z01 := (hb.cell (p := ⟨wr.heap.size, 1, none⟩) k7).trans u1
          have z02 := (hb.cell (p := ⟨wr.heap.size, 2, none⟩) k7).trans u2
          have z03 := (hb.cell (p := ⟨wr.heap.size, 3, none⟩) k7).trans u3
          have z04 := (hb.cell (p := ⟨wr.heap.size, 4, none⟩) k7).trans u4
          have zs := hb.size
          simp [preds, Region.binds, RC.phi, RC.MP.val] at hpre
          simp only [frL, Act.put, List.setIfInBounds_toArray, List.set_cons_zero, List.set_cons_succ, Nat.zero_add, Nat.reduceAdd, hpre] at hK ⊢
          have HK := Lib.hid hK
          clear hK
          refine Held.mk ?_
          go_simp
          exact HK.out _ (Below.refl _ _)
        -- 6: Op.call { callee := Callee.value (Operand.func 86), args := #[Operand.tmp 31, Op
        apply RC.ls_val (fun _ _ _ _ _ _ => trivial)
        · intro x w' hb hpre K hK
          have z00 := (hb.cell (p := ⟨wr.heap.size, 0, none⟩) k7).trans u0
          have z01 := (hb.cell (p := ⟨wr.heap.size, 1, none⟩) k7).trans u1
          have z02 := (hb.cell (p := ⟨wr.heap.size, 2, none⟩) k7).trans u2
          have z03 := (hb.cell (p := ⟨wr.heap.size, 3, none⟩) k7).trans u3
          have z04 := (hb.cell (p := ⟨wr.heap.size, 4, none⟩) k7).trans u4
          have zs := hb.size
          simp [preds, Region.binds, RC.phi, RC.MP.val] at hpre
          simp only [frL, Act.put, List.setIfInBounds_toArray, List.set_cons_zero, List.set_cons_succ, Nat.zero_add, Nat.reduceAdd, hpre] at hK ⊢
          have HK := Lib.hid hK
          clear hK
          refine Held.mk ?_
          go_simp
          (with_reducible refine (CF.out _ _ _).mono ?_)
          rintro e w1 ⟨rfl, hb1⟩
          dsimp only
          exact HK.out _ hb1
        -- 7: Op.call { callee := Callee.value (Operand.func 41), args := #[Operand.tmp 27, Op
        apply RC.ls_val (fun _ _ _ _ _ _ => trivial)
        · intro x w' hb hpre K hK
          have z00 := (hb.cell (p := ⟨wr.heap.size, 0, none⟩) k7).trans u0
          have z01 := (hb.cell (p := ⟨wr.heap.size, 1, none⟩) k7).trans u1
          have z02 := (hb.cell (p := ⟨wr.heap.size, 2, none⟩) k7).trans u2
          have z03 := (hb.cell (p := ⟨wr.heap.size, 3, none⟩) k7).trans u3
          have z04 := (hb.cell (p := ⟨wr.heap.size, 4, none⟩) k7).trans u4
          have zs := hb.size
          simp [preds, Region.binds, RC.phi, RC.MP.val] at hpre
          simp only [frL, Act.put, List.setIfInBounds_toArray, List.set_cons_zero, List.set_cons_succ, Nat.zero_add, Nat.reduceAdd, hpre] at hK ⊢
          have HK := Lib.hid hK
          clear hK
          refine Held.mk ?_
          go_simp
          (with_reducible refine (CM.out _ _).mono ?_)
          rintro e w1 ⟨rfl, hb1⟩
          dsimp only
          exact HK.out _ hb1
        intro x w' hb hp hJ
        simp only [List.cons_append, List.nil_append, RC.phis, RC.MP.val, frL, Act.put, List.setIfInBounds_toArray, List.set_cons_zero, List.set_cons_succ, Nat.zero_add, Nat.reduceAdd] at hp ⊢
        obtain ⟨h0, h1, h2, h3, h4, h5, h6, h7, -⟩ := hp
        simp only [h0, h1, h2, h3, h4, h5, h6, h7]
        clear h0 h1 h2 h3 h4 h5 h6 h7
        have hw6 := hw2.trans (hb.mono hw2.size)
        have hO6 := hO1.out.on hb
        have B6 := B0.below hb B0.lt
        have D6 := B5.below hb B5.lt
        have hc6 := (hb.cell (p := ⟨ab, ao, none⟩) hab1).trans hc9
        have hs6 : W.heap.size ≤ w'.heap.size := Nat.le_trans hss1 hb.size
        obtain ⟨⟨y0, y1, y2, y3, y4⟩, ⟨f0, f1, f2, f3, f4⟩⟩ := D6.five
        have k5 := D6.lt
        have HQ : Hid (OwnV W.heap.size (((((w'.setCell ⟨w.heap.size + 1, 0, none⟩ (.int .i64 1)).setCell ⟨w.heap.size + 1, 1, none⟩ (.int .i64 xv)).setCell ⟨w.heap.size + 1, 2, none⟩ (.int .i64 0)).setCell ⟨w.heap.size + 1, 3, none⟩ (.string ⟨#[]⟩)).setCell ⟨w.heap.size + 1, 4, none⟩ (.bool false)) (.slice (some ⟨b, o, none⟩) ns.length c1) (ns.map ofA) ∧ Blk (((((w'.setCell ⟨w.heap.size + 1, 0, none⟩ (.int .i64 1)).setCell ⟨w.heap.size + 1, 1, none⟩ (.int .i64 xv)).setCell ⟨w.heap.size + 1, 2, none⟩ (.int .i64 0)).setCell ⟨w.heap.size + 1, 3, none⟩ (.string ⟨#[]⟩)).setCell ⟨w.heap.size + 1, 4, none⟩ (.bool false)) w.heap.size #[.pointer none, .slice (some ⟨ab, ao, none⟩) 1 cc] 51 ∧ Below w.heap.size w (((((w'.setCell ⟨w.heap.size + 1, 0, none⟩ (.int .i64 1)).setCell ⟨w.heap.size + 1, 1, none⟩ (.int .i64 xv)).setCell ⟨w.heap.size + 1, 2, none⟩ (.int .i64 0)).setCell ⟨w.heap.size + 1, 3, none⟩ (.string ⟨#[]⟩)).setCell ⟨w.heap.size + 1, 4, none⟩ (.bool false)) ∧ Blk (((((w'.setCell ⟨w.heap.size + 1, 0, none⟩ (.int .i64 1)).setCell ⟨w.heap.size + 1, 1, none⟩ (.int .i64 xv)).setCell ⟨w.heap.size + 1, 2, none⟩ (.int .i64 0)).setCell ⟨w.heap.size + 1, 3, none⟩ (.string ⟨#[]⟩)).setCell ⟨w.heap.size + 1, 4, none⟩ (.bool false)) (w.heap.size + 1) #[.int .i64 1, .int .i64 xv, .int .i64 0, .string ⟨#[]⟩, .bool false] 24 ∧ (((((w'.setCell ⟨w.heap.size + 1, 0, none⟩ (.int .i64 1)).setCell ⟨w.heap.size + 1, 1, none⟩ (.int .i64 xv)).setCell ⟨w.heap.size + 1, 2, none⟩ (.int .i64 0)).setCell ⟨w.heap.size + 1, 3, none⟩ (.string ⟨#[]⟩)).setCell ⟨w.heap.size + 1, 4, none⟩ (.bool false)).cell? ⟨ab, ao, none⟩ = some (.slice a9 ns.length c9) ∧ W.heap.size ≤ (((((w'.setCell ⟨w.heap.size + 1, 0, none⟩ (.int .i64 1)).setCell ⟨w.heap.size + 1, 1, none⟩ (.int .i64 xv)).setCell ⟨w.heap.size + 1, 2, none⟩ (.int .i64 0)).setCell ⟨w.heap.size + 1, 3, none⟩ (.string ⟨#[]⟩)).setCell ⟨w.heap.size + 1, 4, none⟩ (.bool false)).heap.size ∧ ab < (((((w'.setCell ⟨w.heap.size + 1, 0, none⟩ (.int .i64 1)).setCell ⟨w.heap.size + 1, 1, none⟩ (.int .i64 xv)).setCell ⟨w.heap.size + 1, 2, none⟩ (.int .i64 0)).setCell ⟨w.heap.size + 1, 3, none⟩ (.string ⟨#[]⟩)).setCell ⟨w.heap.size + 1, 4, none⟩ (.bool false)).heap.size) := put5_keep (.int .i64 1) (.int .i64 xv) (.int .i64 0) (.string ⟨#[]⟩) (.bool false) hO6 KW B6 (by omega) hw6 (by omega) D6 hc6 (by omega) hs6
        clear u0 u1 u2 u3 u4 k7 D7 B0 B5 hb hw2 hJ hO1 hc9 hw6 hO6 B6 D6 hc6 hs6 hss1 hab1
        show wpList Tryz.prog _ _ [_] _ _
        go_wp2_with fail
        go_roundg (gk - 1)
        case measure => omega
        case rel =>
          obtain ⟨q1, q2, q3, q4, q5, q6, q7⟩ := HQ.out
          exact ⟨1, by omega, by omega, by go_num, q1, q2, q3, q6, ⟨q5, q7⟩, .inr ⟨by omega, xv, (HMEM.out xv).2 (.inr rfl), fun y hy => by rcases (HMEM.out y).1 hy with h | rfl; simp at h; omega, q4⟩⟩
      · have hz : ¬ j = 0 := by omega
        have i8 : ((j : Int) == 0) = false := beq_eq_false_iff_ne.2 (by omega)
        obtain ⟨⟨y0, y1, y2, y3, y4⟩, -⟩ := B5.five
        have k5 := B5.lt
        replace B5 := B5.alloc (.cells #[.int .i64 1, .int .i64 xv, .int .i64 0, .string ⟨#[]⟩, .bool false] 24)
        have hPb := HX.out.2.2 P (List.mem_of_mem_take hP)
        have HP := Lib.hid (And.intro hP hPl)
        have CX := Lib.hid (CO.out xv P hxb hPb)
        have hcm := cmpF_int xv P
        clear hP hPl hPb
        by_cases hgt : P < xv
        · have hr : cmpF xv 0 P 0 = 1 := by
            rw [hcm, if_neg (by simp; omega), if_neg (by simp; omega)]
          rw [hr] at CX
          clear hcm hr
          go_wp2_with fail
          clear v0 v1 v2 v3 v4 lb y0 y1 y2 y3 y4 k5
          generalize (wr.alloc (.cells #[.int .i64 1, .int .i64 xv, .int .i64 0, .string ⟨#[]⟩, .bool false] 24)) = W5 at *
          with_reducible refine (CX.out _).mono ?_
          rintro e w5 ⟨rfl, hb⟩
          have hw6 := hw2.trans (hb.mono hw2.size)
          have hO6 := hO1.out.on hb
          have B6 := B0.below hb B0.lt
          have D6 := B5.below hb B5.lt
          have E7 := D7.below hb D7.lt
          have hc6 := (hb.cell (p := ⟨ab, ao, none⟩) hab1).trans hc9
          have hs6 : W.heap.size ≤ w5.heap.size := Nat.le_trans hss1 hb.size
          clear D7 B0 B5 hb hw2 hO1 hc9 CX hss1 hab1
          go_wp2_with fail
          with_reducible refine (CI.out _ _).mono ?_
          rintro e w6 ⟨rfl, rfl⟩
          obtain ⟨⟨y0, y1, y2, y3, y4⟩, ⟨f0, f1, f2, f3, f4⟩⟩ := D6.five
          obtain ⟨⟨u0, u1, u2, u3, u4⟩, -⟩ := E7.five
          have k5 := D6.lt
          have k7 := E7.lt
          have HQ : Hid (OwnV W.heap.size (((((w5.setCell ⟨w.heap.size + 1, 0, none⟩ (.int .i64 1)).setCell ⟨w.heap.size + 1, 1, none⟩ (.int .i64 xv)).setCell ⟨w.heap.size + 1, 2, none⟩ (.int .i64 0)).setCell ⟨w.heap.size + 1, 3, none⟩ (.string ⟨#[]⟩)).setCell ⟨w.heap.size + 1, 4, none⟩ (.bool false)) (.slice (some ⟨b, o, none⟩) ns.length c1) (ns.map ofA) ∧ Blk (((((w5.setCell ⟨w.heap.size + 1, 0, none⟩ (.int .i64 1)).setCell ⟨w.heap.size + 1, 1, none⟩ (.int .i64 xv)).setCell ⟨w.heap.size + 1, 2, none⟩ (.int .i64 0)).setCell ⟨w.heap.size + 1, 3, none⟩ (.string ⟨#[]⟩)).setCell ⟨w.heap.size + 1, 4, none⟩ (.bool false)) w.heap.size #[.pointer none, .slice (some ⟨ab, ao, none⟩) 1 cc] 51 ∧ Below w.heap.size w (((((w5.setCell ⟨w.heap.size + 1, 0, none⟩ (.int .i64 1)).setCell ⟨w.heap.size + 1, 1, none⟩ (.int .i64 xv)).setCell ⟨w.heap.size + 1, 2, none⟩ (.int .i64 0)).setCell ⟨w.heap.size + 1, 3, none⟩ (.string ⟨#[]⟩)).setCell ⟨w.heap.size + 1, 4, none⟩ (.bool false)) ∧ Blk (((((w5.setCell ⟨w.heap.size + 1, 0, none⟩ (.int .i64 1)).setCell ⟨w.heap.size + 1, 1, none⟩ (.int .i64 xv)).setCell ⟨w.heap.size + 1, 2, none⟩ (.int .i64 0)).setCell ⟨w.heap.size + 1, 3, none⟩ (.string ⟨#[]⟩)).setCell ⟨w.heap.size + 1, 4, none⟩ (.bool false)) (w.heap.size + 1) #[.int .i64 1, .int .i64 xv, .int .i64 0, .string ⟨#[]⟩, .bool false] 24 ∧ (((((w5.setCell ⟨w.heap.size + 1, 0, none⟩ (.int .i64 1)).setCell ⟨w.heap.size + 1, 1, none⟩ (.int .i64 xv)).setCell ⟨w.heap.size + 1, 2, none⟩ (.int .i64 0)).setCell ⟨w.heap.size + 1, 3, none⟩ (.string ⟨#[]⟩)).setCell ⟨w.heap.size + 1, 4, none⟩ (.bool false)).cell? ⟨ab, ao, none⟩ = some (.slice a9 ns.length c9) ∧ W.heap.size ≤ (((((w5.setCell ⟨w.heap.size + 1, 0, none⟩ (.int .i64 1)).setCell ⟨w.heap.size + 1, 1, none⟩ (.int .i64 xv)).setCell ⟨w.heap.size + 1, 2, none⟩ (.int .i64 0)).setCell ⟨w.heap.size + 1, 3, none⟩ (.string ⟨#[]⟩)).setCell ⟨w.heap.size + 1, 4, none⟩ (.bool false)).heap.size ∧ ab < (((((w5.setCell ⟨w.heap.size + 1, 0, none⟩ (.int .i64 1)).setCell ⟨w.heap.size + 1, 1, none⟩ (.int .i64 xv)).setCell ⟨w.heap.size + 1, 2, none⟩ (.int .i64 0)).setCell ⟨w.heap.size + 1, 3, none⟩ (.string ⟨#[]⟩)).setCell ⟨w.heap.size + 1, 4, none⟩ (.bool false)).heap.size) := put5_keep (.int .i64 1) (.int .i64 xv) (.int .i64 0) (.string ⟨#[]⟩) (.bool false) hO6 KW B6 (by omega) hw6 (by omega) D6 hc6 (by omega) hs6
          clear E7 hw6 hO6 B6 D6 hc6 hs6
          go_wp2_with fail
          go_roundg (gk - 1)
          case measure => omega
          case rel =>
            obtain ⟨q1, q2, q3, q4, q5, q6, q7⟩ := HQ.out
            exact ⟨j + 1, by omega, by omega, by go_num, q1, q2, q3, q6, ⟨q5, q7⟩, .inr ⟨by omega, xv, (HMEM.out xv).2 (.inr rfl), fun y hy => by rcases (HMEM.out y).1 hy with h | rfl; have := HP.out.2 y h; omega; omega, q4⟩⟩
        · have hr : ∃ r, cmpF xv 0 P 0 = r ∧ (r = 0 ∨ r = -1) := by
            refine ⟨_, rfl, ?_⟩
            rw [hcm]
            by_cases he : xv = P
            · exact .inl (by rw [if_pos (by simp; omega)])
            · exact .inr (by rw [if_neg (by simp; omega), if_pos (by simp; omega)])
          obtain ⟨r, hr, hr2⟩ := hr
          rw [hr] at CX
          clear hcm hr
          rcases hr2 with rfl | rfl
          all_goals
            go_wp2_with fail
            clear v0 v1 v2 v3 v4 lb y0 y1 y2 y3 y4 k5
            generalize (wr.alloc (.cells #[.int .i64 1, .int .i64 xv, .int .i64 0, .string ⟨#[]⟩, .bool false] 24)) = W5 at *
            with_reducible refine (CX.out _).mono ?_
            rintro e w5 ⟨rfl, hb⟩
            have hw6 := hw2.trans (hb.mono hw2.size)
            have hO6 := hO1.out.on hb
            have B6 := B0.below hb B0.lt
            have D6 := B5.below hb B5.lt
            have E7 := D7.below hb D7.lt
            have hc6 := (hb.cell (p := ⟨ab, ao, none⟩) hab1).trans hc9
            have hs6 : W.heap.size ≤ w5.heap.size := Nat.le_trans hss1 hb.size
            clear D7 B0 B5 hb hw2 hO1 hc9 CX hss1 hab1
            go_wp2_with fail
            with_reducible refine (CI.out _ _).mono ?_
            rintro e w6 ⟨rfl, rfl⟩
            have HQ := Lib.hid (And.intro hO6 (And.intro B6 (And.intro hw6 (And.intro D6 (And.intro hc6 hs6)))))
            clear E7 hw6 hO6 B6 D6 hc6 hs6
            go_wp2_with fail
            go_roundg (gk - 1)
            case measure => omega
            case rel =>
              obtain ⟨q1, q2, q3, q4, q5, q6⟩ := HQ.out
              exact ⟨j + 1, by omega, by omega, by go_num, q1, q2, q3, q6, ⟨q5, World.block_lt_of_cell? _ _ q5⟩, .inr ⟨by omega, P, (HMEM.out P).2 (.inl HP.out.1), fun y hy => by rcases (HMEM.out y).1 hy with h | rfl; exact HP.out.2 y h; omega, q4⟩⟩
    · have i0 : decide ((j : Int) < (ns.length : Int)) = false := by simp; omega
      have hjl : j = ns.length := by omega
      rcases hD with ⟨h0, -⟩ | ⟨-, P, hP, hPl, B5⟩
      · omega
      have hPM : P = M := by
        have h1 := HX.out.2.1 P (List.mem_of_mem_take hP)
        have h2 := hPl M (by rw [hjl, List.take_length]; exact HX.out.1)
        omega
      have i1 : ((ns.length : Int) == 0) = false := beq_eq_false_iff_ne.2 (by omega)
      clear hjl hP hPl
      subst hPM
      have c0 : wr.cell? ⟨w.heap.size, 0, none⟩ = some (.pointer none) := B0.cell 0
      have c1' : wr.cell? ⟨w.heap.size, 1, none⟩ = some (.slice (some ⟨ab, ao, none⟩) 1 cc) := B0.cell 1
      have k0 := B0.lt
      obtain ⟨⟨y0, y1, y2, y3, y4⟩, -⟩ := B5.five
      have k5 := B5.lt
      have CY := Lib.hid (lof_one 1 P 0 ⟨#[]⟩ false wr)
      clear hO B0 B5
      go_wp2_with fail
      with_reducible refine CY.out.mono ?_
      rintro e w3 ⟨v, rfl, hO, hb⟩
      have hw3 := hw2.trans (hb.mono hw2.size)
      have HO := Lib.hid (OwnI.low hO hw2.size)
      clear hO hb CY c0 c1' y0 y1 y2 y3 y4 k0 k5
      go_wp2_with fail
      go_returns
      exact ⟨_, rfl, HO.out, hw3⟩
end Go.Proofs.YtfagfkfcokmclaaGreatDoor
end
section
set_option linter.unusedSimpArgs false
set_option linter.unusedVariables false
set_option linter.constructorNameAsVariable false
namespace Go.Proofs.YtfagfkfcokmclaaGreatDoor
open Go.RowKit Go.Sort

set_option maxRecDepth 100000 in
set_option maxHeartbeats 1600000 in
theorem cbest_none (ns : List Int) (hns : ns.length = 0) (ab ao cc : Nat) (w : World) (h : ArgR w ab ao 1 0 (ns.map ofA)) :
    Calls Tryz.prog 45 #[.agg #[.pointer none, .slice (some ⟨ab, ao, none⟩) 1 cc], .int .i64 1] w fun e w' => ∃ v, e = .returned v ∧ OwnI w.heap.size w' v [] ∧ Below w.heap.size w w' := by
  have HNS := Lib.hid hns
  clear hns
  have CO := Lib.hid order_int
  have CF : Hid (∀ n m w, Calls Tryz.prog 86 #[.int .i64 n, .int .i64 m] w fun e w' => e = .returned (.int .i64 m) ∧ Below w.heap.size w w') := fun n m w => (first_any n m w).mono (by rintro e w' ⟨rfl, rfl⟩; exact ⟨rfl, Below.refl _ _⟩)
  have CM : Hid (∀ n w, Calls Tryz.prog 41 #[.agg #[.int .i64 1, .int .i64 n, .int .i64 0, .string ⟨#[]⟩, .bool false], .int .i64 0] w fun e w' => e = .returned (.agg #[.int .i64 1, .int .i64 n, .int .i64 0, .string ⟨#[]⟩, .bool false]) ∧ Below w.heap.size w w') := fun n w => must_atom 1 n 0 ⟨#[]⟩ false w
  have CI := Lib.hid must_int
  have hb0 : Below w.heap.size w ((w.alloc (.cells #[.pointer none, .slice (some ⟨ab, ao, none⟩) 1 cc] 51)).alloc (.cells #[.int .i64 0, .int .i64 0, .int .i64 0, .string ⟨#[]⟩, .bool false] 24)) := ((Below.refl _ _).alloc (Nat.le_refl _) _).alloc (by simp) _
  have B0 : Blk ((w.alloc (.cells #[.pointer none, .slice (some ⟨ab, ao, none⟩) 1 cc] 51)).alloc (.cells #[.int .i64 0, .int .i64 0, .int .i64 0, .string ⟨#[]⟩, .bool false] 24)) w.heap.size #[.pointer none, .slice (some ⟨ab, ao, none⟩) 1 cc] 51 := (Blk.new _ _ _).alloc _
  have B5 : Blk ((w.alloc (.cells #[.pointer none, .slice (some ⟨ab, ao, none⟩) 1 cc] 51)).alloc (.cells #[.int .i64 0, .int .i64 0, .int .i64 0, .string ⟨#[]⟩, .bool false] 24)) (w.heap.size + 1) #[.int .i64 0, .int .i64 0, .int .i64 0, .string ⟨#[]⟩, .bool false] 24 := by
    have := Blk.new (w.alloc (.cells #[.pointer none, .slice (some ⟨ab, ao, none⟩) 1 cc] 51)) #[.int .i64 0, .int .i64 0, .int .i64 0, .string ⟨#[]⟩, .bool false] 24
    simpa using this
  have hWs : ((w.alloc (.cells #[.pointer none, .slice (some ⟨ab, ao, none⟩) 1 cc] 51)).alloc (.cells #[.int .i64 0, .int .i64 0, .int .i64 0, .string ⟨#[]⟩, .bool false] 24)).heap.size = w.heap.size + 2 := by simp
  have C1 := Lib.hid (by
    obtain ⟨h1, h2, h3, ⟨a, c, h4, h5⟩, h6, h7⟩ := h.on hb0
    exact (⟨a, c, h4, catoms_own (ns.map ofA) ab ao 1 cc 0 a c _ h5 h7 h6 h1 h2 h3 h4⟩ : ∃ a c, ((w.alloc (.cells #[.pointer none, .slice (some ⟨ab, ao, none⟩) 1 cc] 51)).alloc (.cells #[.int .i64 0, .int .i64 0, .int .i64 0, .string ⟨#[]⟩, .bool false] 24)).cell? ⟨ab, ao + 0, none⟩ = some (.slice a (ns.map ofA).length c) ∧ Calls Tryz.prog 32 #[.agg #[.pointer none, .slice (some ⟨ab, ao, none⟩) 1 cc], .int .i64 ((0 : Nat) : Int)] ((w.alloc (.cells #[.pointer none, .slice (some ⟨ab, ao, none⟩) 1 cc] 51)).alloc (.cells #[.int .i64 0, .int .i64 0, .int .i64 0, .string ⟨#[]⟩, .bool false] 24)) fun e w' => ∃ v, e = .returned v ∧ OwnV ((w.alloc (.cells #[.pointer none, .slice (some ⟨ab, ao, none⟩) 1 cc] 51)).alloc (.cells #[.int .i64 0, .int .i64 0, .int .i64 0, .string ⟨#[]⟩, .bool false] 24)).heap.size w' v (ns.map ofA) ∧ Below ((w.alloc (.cells #[.pointer none, .slice (some ⟨ab, ao, none⟩) 1 cc] 51)).alloc (.cells #[.int .i64 0, .int .i64 0, .int .i64 0, .string ⟨#[]⟩, .bool false] 24)).heap.size ((w.alloc (.cells #[.pointer none, .slice (some ⟨ab, ao, none⟩) 1 cc] 51)).alloc (.cells #[.int .i64 0, .int .i64 0, .int .i64 0, .string ⟨#[]⟩, .bool false] 24)) w'))
  have hab := (h.on hb0).al
  have hab0 := h.al
  clear h
  obtain ⟨a9, c9, h9, C2⟩ := C1.out
  clear C1
  replace C2 := Lib.hid C2
  rw [List.length_map, Nat.add_zero] at h9
  simp only [Int.natCast_zero] at C2
  have H9 := Lib.hid (And.intro h9 hab)
  have HWS := Lib.hid hWs
  clear h9 hab hWs
  go_enter Tryz.func45, Tryz.ntmps45
  go_wp2_with fail
  generalize (w.alloc (.cells #[.pointer none, .slice (some ⟨ab, ao, none⟩) 1 cc] 51)).alloc (.cells #[.int .i64 0, .int .i64 0, .int .i64 0, .string ⟨#[]⟩, .bool false] 24) = W at *
  with_reducible refine C2.out.mono ?_
  rintro e w1 ⟨v, rfl, hO, hb1⟩
  obtain ⟨a1, c1, rfl, -, -⟩ := hO.readc
  rw [List.length_map] at hO
  have hw1 := hb0.trans (hb1.mono hb0.size)
  have k0 := B0.lt
  have k5 := B5.lt
  replace B0 := B0.below hb1 k0
  replace B5 := B5.below hb1 k5
  have hW1 := Lib.hid (hb1)
  have hss := hb1.size
  have HO := Lib.hid hO
  clear C2 hb1 hb0 k0 k5 hO
  try simp only [List.length_map]
  go_wp2_with fail
  have hns := HNS.out
  have hc9 : w1.cell? ⟨ab, ao, none⟩ = some (.slice a9 ns.length c9) := (hW1.out.cell (p := ⟨ab, ao, none⟩) H9.out.2).trans H9.out.1
  rw [hns] at hc9
  have c0 : w1.cell? ⟨w.heap.size, 0, none⟩ = some (.pointer none) := B0.cell 0
  have c1' : w1.cell? ⟨w.heap.size, 1, none⟩ = some (.slice (some ⟨ab, ao, none⟩) 1 cc) := B0.cell 1
  have k0 := B0.lt
  clear HO B0 B5 hW1 H9 HNS
  simp only [hns]
  go_loopg [12] 0 (fun _ ii wr => ii = .int .i64 0 ∧ wr = w1)
  case atStart => exact ⟨rfl, rfl⟩
  case round =>
    obtain ⟨rfl, rfl⟩ := hrel
    go_wp2_with fail
    go_returns
    exact ⟨_, rfl, OwnI.nil _ _, hw1⟩
/-- The greatest, if there is one. -/
def maxA (ns : List Int) (M : Int) : List At := if ns.length = 0 then [] else [ofA M]
theorem call_max (ns : List Int) (M : Int) (hM : ns ≠ [] → M ∈ ns ∧ ∀ y ∈ ns, y ≤ M) (hx : ∀ x ∈ ns, -1000000 ≤ x ∧ x ≤ 1000000) (hl : ns.length ≤ 1000000) (ab cc : Nat) (w : World) (hS : Sp w) (h0 : ArgR w ab 0 1 0 (ns.map ofA)) :
    Calls Tryz.prog 9 #[.pointer none, .string ⟨#[109, 97, 120]⟩, .slice (some ⟨ab, 0, none⟩) 1 cc] w (Ans (maxA ns M) w) := by
  refine lcall_of _ _ 1 cc (some ⟨ab, 0, none⟩) rfl _ w (fun W hW => has_max_1 W (hS.on hW)) (fun W hW => do_max _ 1 cc (some ⟨ab, 0, none⟩) W (fun V hV => ?_)) ?_ ?_
  · have h1 := h0.on (hW.trans (hV.mono hW.size))
    unfold maxA
    by_cases h : ns.length = 0
    · rw [if_pos h]
      exact cbest_none ns h ab 0 cc V h1
    · rw [if_neg h]
      have hne : ns ≠ [] := by intro h2; exact h (by rw [h2]; rfl)
      exact cbest_any ns M (hM hne).1 (hM hne).2 hx hl ab 0 cc V h1
  · intro y hy
    unfold maxA at hy
    split at hy
    · cases hy
    · simp only [List.mem_singleton] at hy
      subst hy
      show (0 : Nat) ≤ _
      omega
  · unfold maxA
    split
    · show (0 : Nat) ≤ _
      omega
    · show (1 : Nat) ≤ _
      omega
end Go.Proofs.YtfagfkfcokmclaaGreatDoor
end

/- Texts put together: LbF, LbG, LbY. -/
import Derived.Test.YtfagfkfcokmclaaGreatDoorZLbA
import Derived.Test.YtfagfkfcokmclaaGreatDoorZMgC
import Derived.Lib.OthersKept
section
set_option linter.unusedSimpArgs false
set_option linter.unusedVariables false
set_option linter.constructorNameAsVariable false
namespace Go.Proofs.YtfagfkfcokmclaaGreatDoor
open Go.RowKit Go.Sort

/-- The world goes on. -/
def RG (w w' : World) : Prop := Below w.heap.size w w'
def MPt (xs : List At) : RC.MP RG := ⟨fun v w => ∃ a c, v = .tuple #[.slice a xs.length c, .int .i64 0] ∧ VRow w a xs ∧ (a = none → c = 0), fun v w w' ⟨a, c, h1, h2, h3⟩ hr => ⟨a, c, h1, h2.on hr, h3⟩⟩
def MPs (xs : List At) : RC.MP RG := ⟨fun v w => ∃ a c, v = .slice a xs.length c ∧ VRow w a xs ∧ (a = none → c = 0), fun v w w' ⟨a, c, h1, h2, h3⟩ hr => ⟨a, c, h1, h2.on hr, h3⟩⟩
theorem must_row (v : Value) (w : World) : Calls Tryz.prog 66 #[v, .int .i64 0] w fun e w' => e = .returned v ∧ w = w' := by
  go_enter Tryz.func66, Tryz.ntmps66
  go_wp2_with fail
  go_returns
  exact ⟨rfl, rfl⟩
set_option maxRecDepth 100000 in
set_option maxHeartbeats 800000 in
theorem catoms_any (xs : List At) (ab ao n cc : Nat) (i : Nat) (a : Option Addr) (c : Nat) (w : World) (hI : ItRow w a xs) (hl : xs.length ≤ 100000000) (hsz : sumT xs ≤ 65536) (hi : i < n) (hn : n ≤ 1000000) (hab : ab < w.heap.size) (hc : w.cell? ⟨ab, ao + i, none⟩ = some (.slice a xs.length c)) :
    Calls Tryz.prog 32 #[.agg #[.pointer none, .slice (some ⟨ab, ao, none⟩) n cc], .int .i64 (i : Int)] w fun e w' => ∃ a c, e = .returned (.slice a xs.length c) ∧ VRow w' a xs ∧ (a = none → c = 0) ∧ Below w.heap.size w w' := by
  have hb0 : Below w.heap.size w (w.alloc (.cells #[.pointer none, .slice (some ⟨ab, ao, none⟩) n cc] 51)) := (Below.refl _ _).alloc (Nat.le_refl _) _
  have B0 : Blk (w.alloc (.cells #[.pointer none, .slice (some ⟨ab, ao, none⟩) n cc] 51)) w.heap.size #[.pointer none, .slice (some ⟨ab, ao, none⟩) n cc] 51 := Blk.new _ _ _
  have hc1 := (hb0.cell (p := ⟨ab, ao + i, none⟩) hab).trans hc
  have hI1 := hI.on hb0
  have i6 : (i : Int) < (n : Int) := by omega
  have hj0 : (0 : Int) ≤ (i : Int) := Int.natCast_nonneg _
  clear hI hc
  go_enter Tryz.func32, Tryz.ntmps32
  go_wp2_with fail
  generalize w.alloc (.cells #[.pointer none, .slice (some ⟨ab, ao, none⟩) n cc] 51) = W at *
  have c0 : W.cell? ⟨w.heap.size, 0, none⟩ = some (.pointer none) := B0.cell 0
  have c1 : W.cell? ⟨w.heap.size, 1, none⟩ = some (.slice (some ⟨ab, ao, none⟩) n cc) := B0.cell 1
  have kB := B0.lt
  have kA := Nat.lt_of_lt_of_le hab hb0.size
  have HI := Lib.hid hI1
  have HC := Lib.hid (fun (V : World) (hV : RG W V) => values_any xs (.pointer none) a c V (hI1.on hV) hl hsz)
  clear B0 hI1
  refine RC.region_steps (R := RG) 11 [some 5, some 6, some 7, some 8, some 9, some 10, some 11, some 12, some 13, some 14, some 15] (fun _ _ => True) (fun a b c h1 h2 => h1.trans (h2.mono h1.size)) (fun w => below_drewN (Below.refl _ w) 1) (fun _ => trivial) (by kernel_rfl) (by kernel_rfl) ?_
  -- 0: Op.fieldAddr 51 (Operand.tmp 2) 0
  apply RC.ls_val (fun _ _ _ _ _ _ => trivial)
  · intro x w' hb hpre K hK
    have z0 := (hb.cell (p := ⟨w.heap.size, 0, none⟩) kB).trans c0
    have z1 := (hb.cell (p := ⟨w.heap.size, 1, none⟩) kB).trans c1
    have z2 := (hb.cell (p := ⟨ab, ao + i, none⟩) kA).trans hc1
    have zs := hb.size
    clear hpre
    simp only [frL, Act.put, List.setIfInBounds_toArray, List.set_cons_zero, List.set_cons_succ, Nat.zero_add, Nat.reduceAdd] at hK ⊢
    have HK := Lib.hid hK
    clear hK
    refine Held.mk ?_
    go_simp
    exact HK.out _ (Below.refl _ _)
  -- 1: Op.load 46 (Operand.tmp 5)
  apply RC.ls_val (fun _ _ _ _ _ _ => trivial)
  · intro x w' hb hpre K hK
    have z0 := (hb.cell (p := ⟨w.heap.size, 0, none⟩) kB).trans c0
    have z1 := (hb.cell (p := ⟨w.heap.size, 1, none⟩) kB).trans c1
    have z2 := (hb.cell (p := ⟨ab, ao + i, none⟩) kA).trans hc1
    have zs := hb.size
    simp [preds, Region.binds, RC.phi, RC.MP.val] at hpre
    simp only [frL, Act.put, List.setIfInBounds_toArray, List.set_cons_zero, List.set_cons_succ, Nat.zero_add, Nat.reduceAdd, hpre] at hK ⊢
    have HK := Lib.hid hK
    clear hK
    refine Held.mk ?_
    go_simp
    exact HK.out _ (Below.refl _ _)
  -- 2: Op.fieldAddr 51 (Operand.tmp 2) 1
  apply RC.ls_val (fun _ _ _ _ _ _ => trivial)
  · intro x w' hb hpre K hK
    have z0 := (hb.cell (p := ⟨w.heap.size, 0, none⟩) kB).trans c0
    have z1 := (hb.cell (p := ⟨w.heap.size, 1, none⟩) kB).trans c1
    have z2 := (hb.cell (p := ⟨ab, ao + i, none⟩) kA).trans hc1
    have zs := hb.size
    clear hpre
    simp only [frL, Act.put, List.setIfInBounds_toArray, List.set_cons_zero, List.set_cons_succ, Nat.zero_add, Nat.reduceAdd] at hK ⊢
    have HK := Lib.hid hK
    clear hK
    refine Held.mk ?_
    go_simp
    exact HK.out _ (Below.refl _ _)
  -- 3: Op.load 47 (Operand.tmp 7)
  apply RC.ls_val (fun _ _ _ _ _ _ => trivial)
  · intro x w' hb hpre K hK
    have z0 := (hb.cell (p := ⟨w.heap.size, 0, none⟩) kB).trans c0
    have z1 := (hb.cell (p := ⟨w.heap.size, 1, none⟩) kB).trans c1
    have z2 := (hb.cell (p := ⟨ab, ao + i, none⟩) kA).trans hc1
    have zs := hb.size
    simp [preds, Region.binds, RC.phi, RC.MP.val] at hpre
    simp only [frL, Act.put, List.setIfInBounds_toArray, List.set_cons_zero, List.set_cons_succ, Nat.zero_add, Nat.reduceAdd, hpre] at hK ⊢
    have HK := Lib.hid hK
    clear hK
    refine Held.mk ?_
    go_simp
    exact HK.out _ (Below.refl _ _)
  -- 4: Op.move (Operand.tmp 1)
  apply RC.ls_val (fun _ _ _ _ _ _ => trivial)
  · intro x w' hb hpre K hK
    have z0 := (hb.cell (p := ⟨w.heap.size, 0, none⟩) kB).trans c0
    have z1 := (hb.cell (p := ⟨w.heap.size, 1, none⟩) kB).trans c1
    have z2 := (hb.cell (p := ⟨ab, ao + i, none⟩) kA).trans hc1
    have zs := hb.size
    clear hpre
    simp only [frL, Act.put, List.setIfInBounds_toArray, List.set_cons_zero, List.set_cons_succ, Nat.zero_add, Nat.reduceAdd] at hK ⊢
    have HK := Lib.hid hK
    clear hK
    refine Held.mk ?_
    go_simp
    exact HK.out _ (Below.refl _ _)
  -- 5: Op.indexAddr 47 (Operand.tmp 8) (Operand.tmp 9)
  apply RC.ls_val (fun _ _ _ _ _ _ => trivial)
  · intro x w' hb hpre K hK
    have z0 := (hb.cell (p := ⟨w.heap.size, 0, none⟩) kB).trans c0
    have z1 := (hb.cell (p := ⟨w.heap.size, 1, none⟩) kB).trans c1
    have z2 := (hb.cell (p := ⟨ab, ao + i, none⟩) kA).trans hc1
    have zs := hb.size
    simp [preds, Region.binds, RC.phi, RC.MP.val] at hpre
    simp only [frL, Act.put, List.setIfInBounds_toArray, List.set_cons_zero, List.set_cons_succ, Nat.zero_add, Nat.reduceAdd, hpre] at hK ⊢
    have HK := Lib.hid hK
    clear hK
    refine Held.mk ?_
    go_simp
    exact HK.out _ (Below.refl _ _)
  -- 6: Op.load 29 (Operand.tmp 10)
  apply RC.ls_val (fun _ _ _ _ _ _ => trivial)
  · intro x w' hb hpre K hK
    have z0 := (hb.cell (p := ⟨w.heap.size, 0, none⟩) kB).trans c0
    have z1 := (hb.cell (p := ⟨w.heap.size, 1, none⟩) kB).trans c1
    have z2 := (hb.cell (p := ⟨ab, ao + i, none⟩) kA).trans hc1
    have zs := hb.size
    simp [preds, Region.binds, RC.phi, RC.MP.val] at hpre
    simp only [frL, Act.put, List.setIfInBounds_toArray, List.set_cons_zero, List.set_cons_succ, Nat.zero_add, Nat.reduceAdd, hpre] at hK ⊢
    have HK := Lib.hid hK
    clear hK
    refine Held.mk ?_
    go_simp
    exact HK.out _ (Below.refl _ _)
  -- 7: Op.call { callee := Callee.value (Operand.func 67), args := #[Operand.tmp 6, Ope
  refine RC.ls_gen (MPt xs) ?_ ?_
  · intro x w' hb hj hpre K hK
    have p0 := hpre.1 rfl
    have p1 := hpre.2.1 rfl
    clear hpre
    simp [RC.phi, RC.MP.val] at p0 p1
    simp only [frL, Act.put, List.setIfInBounds_toArray, List.set_cons_zero, List.set_cons_succ, Nat.zero_add, Nat.reduceAdd, p0, p1] at hK ⊢
    have HK := Lib.hid hK
    clear hK
    refine Held.mk ?_
    go_simp
    with_reducible refine (HC.out w' hb).mono ?_
    rintro e w1 ⟨v, rfl, h1, hb1⟩
    obtain ⟨a9, c9, rfl, h2, h3⟩ := h1.read
    dsimp only
    exact HK.out _ _ ⟨_, _, rfl, h2, h3⟩ trivial hb1
  -- 8: Op.extract (Operand.tmp 12) 0
  refine RC.ls_gen (MPs xs) ?_ ?_
  · intro x w' hb hj hpre K hK
    obtain ⟨a9, c9, p0, h2, h3⟩ : ∃ a c, x 7 = .tuple #[.slice a xs.length c, .int .i64 0] ∧ VRow w' a xs ∧ (a = none → c = 0) := hpre.1 rfl
    clear hpre
    simp only [frL, Act.put, List.setIfInBounds_toArray, List.set_cons_zero, List.set_cons_succ, Nat.zero_add, Nat.reduceAdd, p0] at hK ⊢
    have HK := Lib.hid hK
    clear hK
    refine Held.mk ?_
    go_simp
    exact HK.out _ _ ⟨_, _, rfl, h2, h3⟩ trivial (Below.refl _ _)
  -- 9: Op.extract (Operand.tmp 12) 1
  refine RC.ls_gen (RC.MP.val (.int .i64 0)) ?_ ?_
  · intro x w' hb hj hpre K hK
    obtain ⟨a9, c9, p0, h2, h3⟩ : ∃ a c, x 7 = .tuple #[.slice a xs.length c, .int .i64 0] ∧ VRow w' a xs ∧ (a = none → c = 0) := hpre.1 rfl
    clear hpre
    simp only [frL, Act.put, List.setIfInBounds_toArray, List.set_cons_zero, List.set_cons_succ, Nat.zero_add, Nat.reduceAdd, p0] at hK ⊢
    have HK := Lib.hid hK
    clear hK
    refine Held.mk ?_
    go_simp
    exact HK.out _ _ rfl trivial (Below.refl _ _)
  -- 10: Op.call { callee := Callee.value (Operand.func 66), args := #[Operand.tmp 13, Op
  refine RC.ls_gen (MPs xs) ?_ ?_
  · intro x w' hb hj hpre K hK
    obtain ⟨a9, c9, p0, h2, h3⟩ : ∃ a c, x 8 = .slice a xs.length c ∧ VRow w' a xs ∧ (a = none → c = 0) := hpre.1 rfl
    have p1 : x 9 = .int .i64 0 := hpre.2.1 rfl
    clear hpre
    simp only [frL, Act.put, List.setIfInBounds_toArray, List.set_cons_zero, List.set_cons_succ, Nat.zero_add, Nat.reduceAdd, p0, p1] at hK ⊢
    have HK := Lib.hid hK
    clear hK
    refine Held.mk ?_
    go_simp
    with_reducible refine (must_row _ w').mono ?_
    rintro e w1 ⟨rfl, rfl⟩
    dsimp only
    exact HK.out _ _ ⟨_, _, rfl, h2, h3⟩ trivial (Below.refl _ _)
  intro x w' hb hp hJ
  simp only [List.cons_append, List.nil_append, RC.phis, RC.MP.val, frL, Act.put, List.setIfInBounds_toArray, List.set_cons_zero, List.set_cons_succ, Nat.zero_add, Nat.reduceAdd] at hp ⊢
  obtain ⟨h0, h1, h2, h3, h4, h5, h6, h7, h8, h9, h10, -⟩ := hp
  simp only [h0, h1, h2, h3, h4, h5, h6]
  clear h0 h1 h2 h3 h4 h5 h6
  obtain ⟨a9, c9, e10, hV9, hn9⟩ : ∃ a c, x 10 = .slice a xs.length c ∧ VRow w' a xs ∧ (a = none → c = 0) := h10
  simp only [e10]
  have hw9 : Below w.heap.size w w' := hb0.trans (hb.mono hb0.size)
  have HV := Lib.hid (And.intro hV9 hn9)
  clear h7 h8 h9 hV9 hn9 e10 hJ
  show wpList Tryz.prog _ _ [_] _ _
  go_wp2_with fail
  go_returns
  exact ⟨_, _, rfl, HV.out.1, HV.out.2, hw9⟩
end Go.Proofs.YtfagfkfcokmclaaGreatDoor
end
section
set_option linter.unusedSimpArgs false
set_option linter.unusedVariables false
set_option linter.constructorNameAsVariable false
namespace Go.Proofs.YtfagfkfcokmclaaGreatDoor
open Go.RowKit Go.Sort

/-- A call's arguments: the i-th is this one item. -/
structure Arg1 (w : World) (ab ao n i : Nat) (x : At) : Prop where
  lt : i < n
  n6 : n ≤ 1000000
  al : ab < w.heap.size
  ex : ∃ a c, w.cell? ⟨ab, ao + i, none⟩ = some (.slice a 1 c) ∧ ItRow w a [x]
  sz : x.t.size ≤ 65536
theorem Arg1.on {w w' : World} {ab ao n i : Nat} {x : At} (h : Arg1 w ab ao n i x) (hb : Below w.heap.size w w') : Arg1 w' ab ao n i x := by
  obtain ⟨h1, h2, h3, ⟨a, c, h4, h5⟩, h6⟩ := h
  exact ⟨h1, h2, Nat.lt_of_lt_of_le h3 hb.size, ⟨a, c, (hb.cell (p := ⟨ab, _, none⟩) h3).trans h4, h5.on hb⟩, h6⟩
theorem catoms_one (x : At) (ab ao n cc i : Nat) (w : World) (h : Arg1 w ab ao n i x) :
    Calls Tryz.prog 32 #[.agg #[.pointer none, .slice (some ⟨ab, ao, none⟩) n cc], .int .i64 (i : Int)] w fun e w' => ∃ b o c, e = .returned (.slice (some ⟨b, o, none⟩) 1 c) ∧ VRow w' (some ⟨b, o, none⟩) [x] ∧ Below w.heap.size w w' := by
  obtain ⟨h1, h2, h3, ⟨a, c, h4, h5⟩, h6⟩ := h
  refine Calls.mono (catoms_any [x] ab ao n cc i a c w h5 (by show (1 : Nat) ≤ _; omega) (by show x.t.size + 0 ≤ _; omega) h1 h2 h3 h4) fun e w' hh => ?_
  obtain ⟨a9, c9, rfl, hV, -, hb⟩ := hh
  rcases hV with h9 | ⟨b, o, rfl, hlt, hc⟩
  · cases h9
  · exact ⟨b, o, c9, rfl, .inr ⟨b, o, rfl, hlt, hc⟩, hb⟩
set_option maxRecDepth 100000 in
set_option maxHeartbeats 800000 in
theorem cone_one (x : At) (ab ao n cc i : Nat) (w : World) (h : Arg1 w ab ao n i x) :
    Calls Tryz.prog 70 #[.agg #[.pointer none, .slice (some ⟨ab, ao, none⟩) n cc], .int .i64 (i : Int)] w fun e w' => e = .returned (.tuple #[.agg #[.int .i64 x.k, .int .i64 x.n, .int .i64 x.s, .string x.t, .bool x.b], .bool true]) ∧ Below w.heap.size w w' := by
  have hb0 : Below w.heap.size w ((w.alloc (.cells #[.pointer none, .slice (some ⟨ab, ao, none⟩) n cc] 51)).alloc (.cells #[.int .i64 0, .int .i64 0, .int .i64 0, .string ⟨#[]⟩, .bool false] 24)) := ((Below.refl _ _).alloc (Nat.le_refl _) _).alloc (by simp) _
  have B1 : Blk ((w.alloc (.cells #[.pointer none, .slice (some ⟨ab, ao, none⟩) n cc] 51)).alloc (.cells #[.int .i64 0, .int .i64 0, .int .i64 0, .string ⟨#[]⟩, .bool false] 24)) (w.heap.size + 1) #[.int .i64 0, .int .i64 0, .int .i64 0, .string ⟨#[]⟩, .bool false] 24 := by
    have := Blk.new (w.alloc (.cells #[.pointer none, .slice (some ⟨ab, ao, none⟩) n cc] 51)) #[.int .i64 0, .int .i64 0, .int .i64 0, .string ⟨#[]⟩, .bool false] 24
    simpa using this
  have CA := Lib.hid (catoms_one x ab ao n cc i _ (h.on hb0))
  clear h
  go_enter Tryz.func70, Tryz.ntmps70
  go_wp2_with fail
  generalize (w.alloc (.cells #[.pointer none, .slice (some ⟨ab, ao, none⟩) n cc] 51)).alloc (.cells #[.int .i64 0, .int .i64 0, .int .i64 0, .string ⟨#[]⟩, .bool false] 24) = W at *
  have k1 := B1.lt
  with_reducible refine CA.out.mono ?_
  rintro e w1 ⟨b, o, c9, rfl, hV, hb1⟩
  rcases hV with h9 | ⟨b', o', he, hlt, hc1⟩
  · cases h9
  cases he
  obtain ⟨y0, y1, y2, y3, y4⟩ := hc1 0 x rfl
  simp only [Nat.zero_mul, Nat.add_zero] at y0 y1 y2 y3 y4
  have B2 : Blk w1 (w.heap.size + 1) #[.int .i64 0, .int .i64 0, .int .i64 0, .string ⟨#[]⟩, .bool false] 24 := Blk.below B1 hb1 k1
  obtain ⟨⟨a0, a1, a2, a3, a4⟩, ⟨f0, f1, f2, f3, f4⟩⟩ := B2.five
  have k2 := B2.lt
  have hw1 : Below w.heap.size w w1 := hb0.trans (hb1.mono hb0.size)
  clear hc1 CA B1 hb1 hb0
  have B7 := ((((Blk.set B2 0 (.int .i64 x.k)).set 1 (.int .i64 x.n)).set 2 (.int .i64 x.s)).set 3 (.string x.t)).set 4 (.bool x.b)
  have hw7 : Below w.heap.size w (((((w1.setCell ⟨w.heap.size + 1, 0, none⟩ (.int .i64 x.k)).setCell ⟨w.heap.size + 1, 1, none⟩ (.int .i64 x.n)).setCell ⟨w.heap.size + 1, 2, none⟩ (.int .i64 x.s)).setCell ⟨w.heap.size + 1, 3, none⟩ (.string x.t)).setCell ⟨w.heap.size + 1, 4, none⟩ (.bool x.b)) := ((((hw1.setCell (by simp) _).setCell (by simp) _).setCell (by simp) _).setCell (by simp) _).setCell (by simp) _
  have q0 := B7.cell 0
  have q1 := B7.cell 1
  have q2 := B7.cell 2
  have q3 := B7.cell 3
  have q4 := B7.cell 4
  have HQ := Lib.hid (And.intro q0 (And.intro q1 (And.intro q2 (And.intro q3 (And.intro q4 hw7)))))
  clear q0 q1 q2 q3 q4 hw7 B7 B2
  go_wp2_with fail
  obtain ⟨q0, q1, q2, q3, q4, hw7⟩ := HQ.out
  generalize (((((w1.setCell ⟨w.heap.size + 1, 0, none⟩ (.int .i64 x.k)).setCell ⟨w.heap.size + 1, 1, none⟩ (.int .i64 x.n)).setCell ⟨w.heap.size + 1, 2, none⟩ (.int .i64 x.s)).setCell ⟨w.heap.size + 1, 3, none⟩ (.string x.t)).setCell ⟨w.heap.size + 1, 4, none⟩ (.bool x.b)) = w7 at *
  simp at q0 q1 q2 q3 q4
  refine bodyPost_ret (v := .tuple #[.agg #[.int .i64 x.k, .int .i64 x.n, .int .i64 x.s, .string x.t, .bool x.b], .bool true]) ?_ rfl ⟨rfl, hw7⟩
  simp [results, Tryz.results70, go_sem, q0, q1, q2, q3, q4]
end Go.Proofs.YtfagfkfcokmclaaGreatDoor
end
section
set_option linter.unusedSimpArgs false
set_option linter.unusedVariables false
set_option linter.constructorNameAsVariable false
namespace Go.Proofs.YtfagfkfcokmclaaGreatDoor
open Go.RowKit Go.Sort

set_option maxRecDepth 100000 in
set_option maxHeartbeats 800000 in
theorem cstr_any (s : ByteArray) (ab ao n cc i : Nat) (w : World) (h : Arg1 w ab ao n i (textA s)) :
    Calls Tryz.prog 37 #[.agg #[.pointer none, .slice (some ⟨ab, ao, none⟩) n cc], .int .i64 (i : Int)] w fun e w' => e = .returned (.string s) ∧ Below w.heap.size w w' := by
  have hb0 : Below w.heap.size w (w.alloc (.cells #[.pointer none, .slice (some ⟨ab, ao, none⟩) n cc] 51)) := (Below.refl _ _).alloc (Nat.le_refl _) _
  have C1 : Hid (Calls Tryz.prog 70 #[.agg #[.pointer none, .slice (some ⟨ab, ao, none⟩) n cc], .int .i64 (i : Int)] (w.alloc (.cells #[.pointer none, .slice (some ⟨ab, ao, none⟩) n cc] 51)) fun e w' => e = .returned (.tuple #[.agg #[.int .i64 3, .int .i64 0, .int .i64 0, .string s, .bool false], .bool true]) ∧ Below (w.alloc (.cells #[.pointer none, .slice (some ⟨ab, ao, none⟩) n cc] 51)).heap.size (w.alloc (.cells #[.pointer none, .slice (some ⟨ab, ao, none⟩) n cc] 51)) w') := cone_one (textA s) ab ao n cc i _ (h.on hb0)
  clear h
  go_enter Tryz.func37, Tryz.ntmps37
  go_wp2_with fail
  with_reducible refine C1.out.mono ?_
  rintro e w1 ⟨rfl, hb1⟩
  have hw1 := hb0.trans (hb1.mono hb0.size)
  have hw2 := hw1.alloc hw1.size (.cells #[.int .i64 3, .int .i64 0, .int .i64 0, .string s, .bool false] 24)
  clear C1 hb0 hb1
  go_wp2_with fail
  go_returns
  exact ⟨rfl, hw2⟩
set_option maxRecDepth 100000 in
set_option maxHeartbeats 800000 in
theorem cint_any (m : Int) (ab ao n cc i : Nat) (w : World) (h : Arg1 w ab ao n i (ofA m)) :
    Calls Tryz.prog 101 #[.agg #[.pointer none, .slice (some ⟨ab, ao, none⟩) n cc], .int .i64 (i : Int)] w fun e w' => e = .returned (.int .i64 m) ∧ Below w.heap.size w w' := by
  have hb0 : Below w.heap.size w (w.alloc (.cells #[.pointer none, .slice (some ⟨ab, ao, none⟩) n cc] 51)) := (Below.refl _ _).alloc (Nat.le_refl _) _
  have C1 : Hid (Calls Tryz.prog 70 #[.agg #[.pointer none, .slice (some ⟨ab, ao, none⟩) n cc], .int .i64 (i : Int)] (w.alloc (.cells #[.pointer none, .slice (some ⟨ab, ao, none⟩) n cc] 51)) fun e w' => e = .returned (.tuple #[.agg #[.int .i64 1, .int .i64 m, .int .i64 0, .string ⟨#[]⟩, .bool false], .bool true]) ∧ Below (w.alloc (.cells #[.pointer none, .slice (some ⟨ab, ao, none⟩) n cc] 51)).heap.size (w.alloc (.cells #[.pointer none, .slice (some ⟨ab, ao, none⟩) n cc] 51)) w') := cone_one (ofA m) ab ao n cc i _ (h.on hb0)
  clear h
  go_enter Tryz.func101, Tryz.ntmps101
  go_wp2_with fail
  with_reducible refine C1.out.mono ?_
  rintro e w1 ⟨rfl, hb1⟩
  have hw1 := hb0.trans (hb1.mono hb0.size)
  have hw2 := hw1.alloc hw1.size (.cells #[.int .i64 1, .int .i64 m, .int .i64 0, .string ⟨#[]⟩, .bool false] 24)
  clear C1 hb0 hb1
  go_wp2_with fail
  go_returns
  exact ⟨rfl, hw2⟩
/-- The count of places, asked for. -/
theorem pcount_any (m : Int) (ab ao n cc b : Nat) (w : World) (h : Arg1 w ab ao n 2 (ofA m)) (hB : Blk w b #[.pointer none, .slice (some ⟨ab, ao, none⟩) n cc] 51) :
    Calls Tryz.prog 157 #[.pointer (some ⟨b, 0, none⟩)] w fun e w' => e = .returned (.int .i64 m) ∧ Below w.heap.size w w' := by
  have c0 : w.cell? ⟨b, 0, none⟩ = some (.pointer none) := hB.cell 0
  have c1 : w.cell? ⟨b, 1, none⟩ = some (.slice (some ⟨ab, ao, none⟩) n cc) := hB.cell 1
  have kb := hB.lt
  have C1 : Hid (Calls Tryz.prog 101 #[.agg #[.pointer none, .slice (some ⟨ab, ao, none⟩) n cc], .int .i64 2] w fun e w' => e = .returned (.int .i64 m) ∧ Below w.heap.size w w') := cint_any m ab ao n cc 2 w h
  clear h hB
  go_enter Tryz.func157, Tryz.ntmps157
  go_wp2_with fail
  with_reducible refine C1.out.mono ?_
  rintro e w1 ⟨rfl, hb1⟩
  go_wp2_with fail
  go_returns
  exact ⟨rfl, hb1⟩
theorem span_no (n f : Int) (v : Value) (h0 : 0 ≤ n) (h1 : n ≤ 1000000000) (w : World) : Calls Tryz.prog 156 #[.int .i64 n, .int .i64 f, v, .bool false] w fun e w' => e = .returned (.tuple #[.int .i64 f, .int .i64 (n + 1)]) ∧ w = w' := by
  go_enter Tryz.func156, Tryz.ntmps156
  go_wp2_with fail
  go_returns
  exact ⟨by go_num, rfl⟩
theorem span_yes (n f m : Int) (ab ao na cc b : Nat) (hf : -1000000000 ≤ f ∧ f ≤ 1000000000) (hm : -1000000000 ≤ m ∧ m ≤ 1000000000) (w : World) (h : Arg1 w ab ao na 2 (ofA m)) (hB : Blk w b #[.pointer none, .slice (some ⟨ab, ao, none⟩) na cc] 51) :
    Calls Tryz.prog 156 #[.int .i64 n, .int .i64 f, .func (.func 157) #[] #[.pointer (some ⟨b, 0, none⟩)], .bool true] w fun e w' => e = .returned (.tuple #[.int .i64 f, .int .i64 (f + m)]) ∧ Below w.heap.size w w' := by
  have C1 := Lib.hid (pcount_any m ab ao na cc b w h hB)
  clear h hB
  go_enter Tryz.func156, Tryz.ntmps156
  go_wp2_with (go_at_call 157; with_reducible refine C1.out.mono ?_; rintro e w1 ⟨rfl, hb1⟩)
  go_returns
  exact ⟨by go_num, hb1⟩
set_option maxRecDepth 100000 in
set_option maxHeartbeats 800000 in
theorem cpart_two (N f : Int) (h0 : 0 ≤ N) (h1 : N ≤ 1000000000) (ab ao cc : Nat) (w : World) (h : Arg1 w ab ao 2 1 (ofA f)) :
    Calls Tryz.prog 103 #[.agg #[.pointer none, .slice (some ⟨ab, ao, none⟩) 2 cc], .int .i64 N] w fun e w' => e = .returned (.tuple #[.int .i64 f, .int .i64 (N + 1)]) ∧ Below w.heap.size w w' := by
  have hmf : ∀ (fn : Fn) (first cap : Array Value) (w : World), (Instr.makeFunc fn first cap).run Tryz.prog w = .ok (.func fn first cap) w := fun _ _ _ _ => rfl
  have hb0 : Below w.heap.size w (w.alloc (.cells #[.pointer none, .slice (some ⟨ab, ao, none⟩) 2 cc] 51)) := (Below.refl _ _).alloc (Nat.le_refl _) _
  have B0 : Blk (w.alloc (.cells #[.pointer none, .slice (some ⟨ab, ao, none⟩) 2 cc] 51)) w.heap.size #[.pointer none, .slice (some ⟨ab, ao, none⟩) 2 cc] 51 := Blk.new _ _ _
  have C1 : Hid (Calls Tryz.prog 101 #[.agg #[.pointer none, .slice (some ⟨ab, ao, none⟩) 2 cc], .int .i64 1] (w.alloc (.cells #[.pointer none, .slice (some ⟨ab, ao, none⟩) 2 cc] 51)) fun e w' => e = .returned (.int .i64 f) ∧ Below (w.alloc (.cells #[.pointer none, .slice (some ⟨ab, ao, none⟩) 2 cc] 51)).heap.size (w.alloc (.cells #[.pointer none, .slice (some ⟨ab, ao, none⟩) 2 cc] 51)) w') := cint_any f ab ao 2 cc 1 _ (h.on hb0)
  have CS := Lib.hid (fun v W => span_no N f v h0 h1 W)
  clear h
  go_enter Tryz.func103, Tryz.ntmps103
  go_wp2_with fail
  generalize w.alloc (.cells #[.pointer none, .slice (some ⟨ab, ao, none⟩) 2 cc] 51) = W at *
  have k0 := B0.lt
  with_reducible refine C1.out.mono ?_
  rintro e w1 ⟨rfl, hb1⟩
  have B1 := B0.below hb1 k0
  have c1 : w1.cell? ⟨w.heap.size, 1, none⟩ = some (.slice (some ⟨ab, ao, none⟩) 2 cc) := B1.cell 1
  have k1 := B1.lt
  have hw1 := hb0.trans (hb1.mono hb0.size)
  clear C1 B0 B1 hb1 hb0
  go_wp2_with fail
  with_reducible refine (CS.out _ w1).mono ?_
  rintro e w2 ⟨rfl, rfl⟩
  go_wp2_with fail
  go_ret2
  exact ⟨rfl, hw1⟩
set_option maxRecDepth 100000 in
set_option maxHeartbeats 800000 in
theorem cpart_three (N f m : Int) (hf : -1000000000 ≤ f ∧ f ≤ 1000000000) (hm : -1000000000 ≤ m ∧ m ≤ 1000000000) (ab ao cc : Nat) (w : World) (h : Arg1 w ab ao 3 1 (ofA f)) (h' : Arg1 w ab ao 3 2 (ofA m)) :
    Calls Tryz.prog 103 #[.agg #[.pointer none, .slice (some ⟨ab, ao, none⟩) 3 cc], .int .i64 N] w fun e w' => e = .returned (.tuple #[.int .i64 f, .int .i64 (f + m)]) ∧ Below w.heap.size w w' := by
  have hmf : ∀ (fn : Fn) (first cap : Array Value) (w : World), (Instr.makeFunc fn first cap).run Tryz.prog w = .ok (.func fn first cap) w := fun _ _ _ _ => rfl
  have hb0 : Below w.heap.size w (w.alloc (.cells #[.pointer none, .slice (some ⟨ab, ao, none⟩) 3 cc] 51)) := (Below.refl _ _).alloc (Nat.le_refl _) _
  have B0 : Blk (w.alloc (.cells #[.pointer none, .slice (some ⟨ab, ao, none⟩) 3 cc] 51)) w.heap.size #[.pointer none, .slice (some ⟨ab, ao, none⟩) 3 cc] 51 := Blk.new _ _ _
  have C1 : Hid (Calls Tryz.prog 101 #[.agg #[.pointer none, .slice (some ⟨ab, ao, none⟩) 3 cc], .int .i64 1] (w.alloc (.cells #[.pointer none, .slice (some ⟨ab, ao, none⟩) 3 cc] 51)) fun e w' => e = .returned (.int .i64 f) ∧ Below (w.alloc (.cells #[.pointer none, .slice (some ⟨ab, ao, none⟩) 3 cc] 51)).heap.size (w.alloc (.cells #[.pointer none, .slice (some ⟨ab, ao, none⟩) 3 cc] 51)) w') := cint_any f ab ao 3 cc 1 _ (h.on hb0)
  have CS := Lib.hid (fun (b : Nat) (W : World) (hA : Arg1 W ab ao 3 2 (ofA m)) (hB : Blk W b #[.pointer none, .slice (some ⟨ab, ao, none⟩) 3 cc] 51) => span_yes N f m ab ao 3 cc b hf hm W hA hB)
  have hA2 := h'.on hb0
  clear h h'
  go_enter Tryz.func103, Tryz.ntmps103
  go_wp2_with fail
  generalize w.alloc (.cells #[.pointer none, .slice (some ⟨ab, ao, none⟩) 3 cc] 51) = W at *
  have k0 := B0.lt
  with_reducible refine C1.out.mono ?_
  rintro e w1 ⟨rfl, hb1⟩
  have B1 := B0.below hb1 k0
  have c1 : w1.cell? ⟨w.heap.size, 1, none⟩ = some (.slice (some ⟨ab, ao, none⟩) 3 cc) := B1.cell 1
  have k1 := B1.lt
  have hw1 := hb0.trans (hb1.mono hb0.size)
  have CS2 := Lib.hid (CS.out w.heap.size w1 (hA2.on hb1) B1)
  clear C1 B0 B1 hb1 hb0 CS hA2
  go_wp2_with fail
  with_reducible refine CS2.out.mono ?_
  rintro e w2 ⟨rfl, hb2⟩
  go_wp2_with fail
  go_ret2
  exact ⟨rfl, hw1.trans (hb2.mono hw1.size)⟩
end Go.Proofs.YtfagfkfcokmclaaGreatDoor
end

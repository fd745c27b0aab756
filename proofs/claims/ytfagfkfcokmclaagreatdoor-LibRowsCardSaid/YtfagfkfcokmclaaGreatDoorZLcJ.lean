/- caller.strings at two texts, and at 'string-length' (printed by lcj.py). -/
import Derived.Test.YtfagfkfcokmclaaGreatDoorZLcB
set_option linter.unusedSimpArgs false
set_option linter.unusedVariables false
set_option linter.constructorNameAsVariable false
namespace Go.Proofs.YtfagfkfcokmclaaGreatDoor
open Go.RowKit Go.Sort

/-- What the walks ask of the laid variables. -/
structure LaidE (m : Int) (w : World) : Prop where
  cell : w.cell? ⟨2, 0, none⟩ = some (.int .i64 m)
  sp : Sp w
theorem LaidE.on {m : Int} {w w' : World} (h : LaidE m w) (hb : Below w.heap.size w w') : LaidE m w' := by
  refine ⟨?_, h.sp.on hb⟩
  have hg : 2 < w.heap.size := by
    rcases Nat.lt_or_ge 2 w.heap.size with h' | h'
    · exact h'
    · have := h.cell; simp [World.cell?, Array.getElem?_eq_none h'] at this
  rw [← h.cell]
  exact hb.cell (p := ⟨2, 0, none⟩) hg
/-- What stands ahead of a text in a text, and behind. -/
def cutA (a b : ByteArray) : ByteArray := ⟨(Lib.cut a.data.toList b.data.toList).1.toArray⟩
def cutB (a b : ByteArray) : ByteArray := ⟨(Lib.cut a.data.toList b.data.toList).2.1.toArray⟩
def cutO (a b : ByteArray) : Bool := (Lib.cut a.data.toList b.data.toList).2.2
def cutAO (a b : ByteArray) : ByteArray := if cutO a b then cutA a b else ⟨#[]⟩
theorem cut_call (a b : ByteArray) (ha : a.size ≤ 65536) (m : Int) (w : World) (hL : LaidE m w) : Calls Tryz.prog 114 #[.string a, .string b] w fun e w' => e = .returned (.tuple #[.string (cutA a b), .string (cutB a b), .bool (cutO a b)]) ∧ Below w.heap.size w w' := by
  refine (Tryz.strings_Cut a b m w (by omega) hL.cell).mono ?_
  rintro e w' ⟨rfl, hw⟩
  refine ⟨rfl, ?_⟩
  obtain ⟨n, rfl⟩ := hw
  exact ⟨rfl, rfl, rfl, Nat.le_refl _, fun _ _ => rfl⟩
set_option maxRecDepth 100000 in
set_option maxHeartbeats 1600000 in
theorem cstrings_contains (a b : ByteArray) (ha : a.size ≤ 65536) (n ab ao cc : Nat) (m : Int) (w : World) (hL : LaidE m w) (h0 : Arg1 w ab ao n 0 (textA a)) (h1 : Arg1 w ab ao n 1 (textA b)) :
    Calls Tryz.prog 53 #[.agg #[.pointer none, .slice (some ⟨ab, ao, none⟩) n cc], .string ⟨#[99, 111, 110, 116, 97, 105, 110, 115]⟩] w fun e w' => ∃ v, e = .returned v ∧ OwnI w.heap.size w' v [truthA (cutO a b)] ∧ Below w.heap.size w w' := by
  have hb0 : Below w.heap.size w (w.alloc (.cells #[.pointer none, .slice (some ⟨ab, ao, none⟩) n cc] 51)) := (Below.refl _ _).alloc (Nat.le_refl _) _
  have B0 : Blk (w.alloc (.cells #[.pointer none, .slice (some ⟨ab, ao, none⟩) n cc] 51)) w.heap.size #[.pointer none, .slice (some ⟨ab, ao, none⟩) n cc] 51 := Blk.new _ _ _
  have g0 := h0.on hb0
  have g1 := h1.on hb0
  have hsf : a.size ≤ 9223372036854775807 := by omega
  have CC := Lib.hid (fun (V : World) (hV : Below w.heap.size w V) => cut_call a b ha m V (hL.on hV))
  generalize cutA a b = BF at *
  generalize cutB a b = BH at *
  generalize cutO a b = OK at *
  have CT := Lib.hid truth_row
  clear h0 h1 hL
  go_enter Tryz.func53, Tryz.ntmps53
  go_wp2_with fail
  generalize w.alloc (.cells #[.pointer none, .slice (some ⟨ab, ao, none⟩) n cc] 51) = W at *
  have kB := B0.lt
  have c0 : W.cell? ⟨w.heap.size, 0, none⟩ = some (.pointer none) := B0.cell 0
  have c1 : W.cell? ⟨w.heap.size, 1, none⟩ = some (.slice (some ⟨ab, ao, none⟩) n cc) := B0.cell 1
  have C1 : Hid (∀ V, RG W V → Calls Tryz.prog 37 #[.agg #[.pointer none, .slice (some ⟨ab, ao, none⟩) n cc], .int .i64 0] V fun e w' => e = .returned (.string a) ∧ Below V.heap.size V w') := fun V hV => cstr_any a ab ao n cc 0 V (g0.on hV)
  have C2 : Hid (∀ V, RG W V → Calls Tryz.prog 37 #[.agg #[.pointer none, .slice (some ⟨ab, ao, none⟩) n cc], .int .i64 1] V fun e w' => e = .returned (.string b) ∧ Below V.heap.size V w') := fun V hV => cstr_any b ab ao n cc 1 V (g1.on hV)
  clear g0 g1 B0
  refine RC.region_steps (R := RG) 5 [some 76, some 77, some 78, some 79, some 11] (fun _ _ => True) (fun a b c h1 h2 => h1.trans (h2.mono h1.size)) (fun w => ⟨rfl, rfl, rfl, Nat.le_refl _, fun _ _ => rfl⟩) (fun _ => trivial) (by kernel_rfl) (by kernel_rfl) ?_
  -- 0: Op.load 51 (Operand.tmp 2)
  apply RC.ls_val (fun _ _ _ _ _ _ => trivial)
  · intro x w' hb hpre K hK
    have z0 := (hb.cell (p := ⟨w.heap.size, 0, none⟩) kB).trans c0
    have z1 := (hb.cell (p := ⟨w.heap.size, 1, none⟩) kB).trans c1
    have zs := hb.size
    clear hpre
    simp only [frL, Act.put, List.setIfInBounds_toArray, List.set_cons_zero, List.set_cons_succ, Nat.zero_add, Nat.reduceAdd] at hK ⊢
    have HK := Lib.hid hK
    clear hK
    refine Held.mk ?_
    go_simp
    exact HK.out _ (Below.refl _ _)
  -- 1: Op.call { callee := Callee.value (Operand.func 37), args := #[Operand.tmp 76, Op
  apply RC.ls_val (fun _ _ _ _ _ _ => trivial)
  · intro x w' hb hpre K hK
    have z0 := (hb.cell (p := ⟨w.heap.size, 0, none⟩) kB).trans c0
    have z1 := (hb.cell (p := ⟨w.heap.size, 1, none⟩) kB).trans c1
    have zs := hb.size
    simp [preds, Region.binds, RC.phi, RC.MP.val] at hpre
    simp only [frL, Act.put, List.setIfInBounds_toArray, List.set_cons_zero, List.set_cons_succ, Nat.zero_add, Nat.reduceAdd, hpre] at hK ⊢
    have HK := Lib.hid hK
    clear hK
    refine Held.mk ?_
    go_simp
    with_reducible refine (C1.out w' hb).mono ?_
    rintro e w2 ⟨rfl, hb1⟩
    dsimp only
    exact HK.out _ hb1
  -- 2: Op.load 51 (Operand.tmp 2)
  apply RC.ls_val (fun _ _ _ _ _ _ => trivial)
  · intro x w' hb hpre K hK
    have z0 := (hb.cell (p := ⟨w.heap.size, 0, none⟩) kB).trans c0
    have z1 := (hb.cell (p := ⟨w.heap.size, 1, none⟩) kB).trans c1
    have zs := hb.size
    clear hpre
    simp only [frL, Act.put, List.setIfInBounds_toArray, List.set_cons_zero, List.set_cons_succ, Nat.zero_add, Nat.reduceAdd] at hK ⊢
    have HK := Lib.hid hK
    clear hK
    refine Held.mk ?_
    go_simp
    exact HK.out _ (Below.refl _ _)
  -- 3: Op.call { callee := Callee.value (Operand.func 37), args := #[Operand.tmp 78, Op
  apply RC.ls_val (fun _ _ _ _ _ _ => trivial)
  · intro x w' hb hpre K hK
    have z0 := (hb.cell (p := ⟨w.heap.size, 0, none⟩) kB).trans c0
    have z1 := (hb.cell (p := ⟨w.heap.size, 1, none⟩) kB).trans c1
    have zs := hb.size
    simp [preds, Region.binds, RC.phi, RC.MP.val] at hpre
    simp only [frL, Act.put, List.setIfInBounds_toArray, List.set_cons_zero, List.set_cons_succ, Nat.zero_add, Nat.reduceAdd, hpre] at hK ⊢
    have HK := Lib.hid hK
    clear hK
    refine Held.mk ?_
    go_simp
    with_reducible refine (C2.out w' hb).mono ?_
    rintro e w2 ⟨rfl, hb1⟩
    dsimp only
    exact HK.out _ hb1
  -- 4: Op.assign (Operand.tmp 77)
  apply RC.ls_val (fun _ _ _ _ _ _ => trivial)
  · intro x w' hb hpre K hK
    have z0 := (hb.cell (p := ⟨w.heap.size, 0, none⟩) kB).trans c0
    have z1 := (hb.cell (p := ⟨w.heap.size, 1, none⟩) kB).trans c1
    have zs := hb.size
    simp [preds, Region.binds, RC.phi, RC.MP.val] at hpre
    simp only [frL, Act.put, List.setIfInBounds_toArray, List.set_cons_zero, List.set_cons_succ, Nat.zero_add, Nat.reduceAdd, hpre] at hK ⊢
    have HK := Lib.hid hK
    clear hK
    refine Held.mk ?_
    go_simp
    exact HK.out _ (Below.refl _ _)
  intro x w' hb hp hJ
  simp only [List.cons_append, List.nil_append, RC.phis, RC.MP.val, frL, Act.put, List.setIfInBounds_toArray, List.set_cons_zero, List.set_cons_succ, Nat.zero_add, Nat.reduceAdd] at hp ⊢
  obtain ⟨h0, h1, h2, h3, h4, -⟩ := hp
  simp only [h0, h1, h2, h3, h4]
  clear h0 h1 h2 h3 h4
  have hw1 : Below w.heap.size w w' := hb0.trans (Below.mono hb hb0.size)
  have CC2 := Lib.hid (CC.out w' hw1)
  clear hJ hb hb0 C1 C2 CC c0 c1 kB
  show wpList Tryz.prog _ _ [_] _ _
  go_wp2_with fail
  with_reducible refine CC2.out.mono ?_
  rintro e w2 ⟨rfl, hb2⟩
  have hw2 := hw1.trans (hb2.mono hw1.size)
  clear CC2 hb2 hw1
  go_wp2_with fail
  with_reducible refine (CT.out _ _).mono ?_
  rintro e w4 ⟨v, rfl, hO, hb4⟩
  have HO := Lib.hid (OwnI.low hO hw2.size)
  have hw4 := hw2.trans (hb4.mono hw2.size)
  clear hO hb4
  go_wp2_with fail
  go_returns
  exact ⟨_, rfl, HO.out, hw4⟩
set_option maxRecDepth 100000 in
set_option maxHeartbeats 1600000 in
theorem cstrings_starts_with (a b : ByteArray) (ha : a.size ≤ 65536) (n ab ao cc : Nat) (m : Int) (w : World) (hL : LaidE m w) (h0 : Arg1 w ab ao n 0 (textA a)) (h1 : Arg1 w ab ao n 1 (textA b)) :
    Calls Tryz.prog 53 #[.agg #[.pointer none, .slice (some ⟨ab, ao, none⟩) n cc], .string ⟨#[115, 116, 97, 114, 116, 115, 45, 119, 105, 116, 104]⟩] w fun e w' => ∃ v, e = .returned v ∧ OwnI w.heap.size w' v [truthA (Lib.hasPrefix a.data.toList b.data.toList)] ∧ Below w.heap.size w w' := by
  have hb0 : Below w.heap.size w (w.alloc (.cells #[.pointer none, .slice (some ⟨ab, ao, none⟩) n cc] 51)) := (Below.refl _ _).alloc (Nat.le_refl _) _
  have B0 : Blk (w.alloc (.cells #[.pointer none, .slice (some ⟨ab, ao, none⟩) n cc] 51)) w.heap.size #[.pointer none, .slice (some ⟨ab, ao, none⟩) n cc] 51 := Blk.new _ _ _
  have g0 := h0.on hb0
  have g1 := h1.on hb0
  have hsf : a.size ≤ 9223372036854775807 := by omega
  have CC := Lib.hid (fun (V : World) (hV : Below w.heap.size w V) => cut_call a b ha m V (hL.on hV))
  generalize cutA a b = BF at *
  generalize cutB a b = BH at *
  generalize cutO a b = OK at *
  have CT := Lib.hid truth_row
  have CH := Lib.hid (fun V => Tryz.strings_HasPrefix a b V)
  generalize Lib.hasPrefix a.data.toList b.data.toList = PR at *
  clear h0 h1 hL
  go_enter Tryz.func53, Tryz.ntmps53
  go_wp2_with fail
  generalize w.alloc (.cells #[.pointer none, .slice (some ⟨ab, ao, none⟩) n cc] 51) = W at *
  have kB := B0.lt
  have c0 : W.cell? ⟨w.heap.size, 0, none⟩ = some (.pointer none) := B0.cell 0
  have c1 : W.cell? ⟨w.heap.size, 1, none⟩ = some (.slice (some ⟨ab, ao, none⟩) n cc) := B0.cell 1
  have C1 : Hid (∀ V, RG W V → Calls Tryz.prog 37 #[.agg #[.pointer none, .slice (some ⟨ab, ao, none⟩) n cc], .int .i64 0] V fun e w' => e = .returned (.string a) ∧ Below V.heap.size V w') := fun V hV => cstr_any a ab ao n cc 0 V (g0.on hV)
  have C2 : Hid (∀ V, RG W V → Calls Tryz.prog 37 #[.agg #[.pointer none, .slice (some ⟨ab, ao, none⟩) n cc], .int .i64 1] V fun e w' => e = .returned (.string b) ∧ Below V.heap.size V w') := fun V hV => cstr_any b ab ao n cc 1 V (g1.on hV)
  clear g0 g1 B0
  refine RC.region_steps (R := RG) 5 [some 76, some 77, some 78, some 79, some 11] (fun _ _ => True) (fun a b c h1 h2 => h1.trans (h2.mono h1.size)) (fun w => ⟨rfl, rfl, rfl, Nat.le_refl _, fun _ _ => rfl⟩) (fun _ => trivial) (by kernel_rfl) (by kernel_rfl) ?_
  -- 0: Op.load 51 (Operand.tmp 2)
  apply RC.ls_val (fun _ _ _ _ _ _ => trivial)
  · intro x w' hb hpre K hK
    have z0 := (hb.cell (p := ⟨w.heap.size, 0, none⟩) kB).trans c0
    have z1 := (hb.cell (p := ⟨w.heap.size, 1, none⟩) kB).trans c1
    have zs := hb.size
    clear hpre
    simp only [frL, Act.put, List.setIfInBounds_toArray, List.set_cons_zero, List.set_cons_succ, Nat.zero_add, Nat.reduceAdd] at hK ⊢
    have HK := Lib.hid hK
    clear hK
    refine Held.mk ?_
    go_simp
    exact HK.out _ (Below.refl _ _)
  -- 1: Op.call { callee := Callee.value (Operand.func 37), args := #[Operand.tmp 76, Op
  apply RC.ls_val (fun _ _ _ _ _ _ => trivial)
  · intro x w' hb hpre K hK
    have z0 := (hb.cell (p := ⟨w.heap.size, 0, none⟩) kB).trans c0
    have z1 := (hb.cell (p := ⟨w.heap.size, 1, none⟩) kB).trans c1
    have zs := hb.size
    simp [preds, Region.binds, RC.phi, RC.MP.val] at hpre
    simp only [frL, Act.put, List.setIfInBounds_toArray, List.set_cons_zero, List.set_cons_succ, Nat.zero_add, Nat.reduceAdd, hpre] at hK ⊢
    have HK := Lib.hid hK
    clear hK
    refine Held.mk ?_
    go_simp
    with_reducible refine (C1.out w' hb).mono ?_
    rintro e w2 ⟨rfl, hb1⟩
    dsimp only
    exact HK.out _ hb1
  -- 2: Op.load 51 (Operand.tmp 2)
  apply RC.ls_val (fun _ _ _ _ _ _ => trivial)
  · intro x w' hb hpre K hK
    have z0 := (hb.cell (p := ⟨w.heap.size, 0, none⟩) kB).trans c0
    have z1 := (hb.cell (p := ⟨w.heap.size, 1, none⟩) kB).trans c1
    have zs := hb.size
    clear hpre
    simp only [frL, Act.put, List.setIfInBounds_toArray, List.set_cons_zero, List.set_cons_succ, Nat.zero_add, Nat.reduceAdd] at hK ⊢
    have HK := Lib.hid hK
    clear hK
    refine Held.mk ?_
    go_simp
    exact HK.out _ (Below.refl _ _)
  -- 3: Op.call { callee := Callee.value (Operand.func 37), args := #[Operand.tmp 78, Op
  apply RC.ls_val (fun _ _ _ _ _ _ => trivial)
  · intro x w' hb hpre K hK
    have z0 := (hb.cell (p := ⟨w.heap.size, 0, none⟩) kB).trans c0
    have z1 := (hb.cell (p := ⟨w.heap.size, 1, none⟩) kB).trans c1
    have zs := hb.size
    simp [preds, Region.binds, RC.phi, RC.MP.val] at hpre
    simp only [frL, Act.put, List.setIfInBounds_toArray, List.set_cons_zero, List.set_cons_succ, Nat.zero_add, Nat.reduceAdd, hpre] at hK ⊢
    have HK := Lib.hid hK
    clear hK
    refine Held.mk ?_
    go_simp
    with_reducible refine (C2.out w' hb).mono ?_
    rintro e w2 ⟨rfl, hb1⟩
    dsimp only
    exact HK.out _ hb1
  -- 4: Op.assign (Operand.tmp 77)
  apply RC.ls_val (fun _ _ _ _ _ _ => trivial)
  · intro x w' hb hpre K hK
    have z0 := (hb.cell (p := ⟨w.heap.size, 0, none⟩) kB).trans c0
    have z1 := (hb.cell (p := ⟨w.heap.size, 1, none⟩) kB).trans c1
    have zs := hb.size
    simp [preds, Region.binds, RC.phi, RC.MP.val] at hpre
    simp only [frL, Act.put, List.setIfInBounds_toArray, List.set_cons_zero, List.set_cons_succ, Nat.zero_add, Nat.reduceAdd, hpre] at hK ⊢
    have HK := Lib.hid hK
    clear hK
    refine Held.mk ?_
    go_simp
    exact HK.out _ (Below.refl _ _)
  intro x w' hb hp hJ
  simp only [List.cons_append, List.nil_append, RC.phis, RC.MP.val, frL, Act.put, List.setIfInBounds_toArray, List.set_cons_zero, List.set_cons_succ, Nat.zero_add, Nat.reduceAdd] at hp ⊢
  obtain ⟨h0, h1, h2, h3, h4, -⟩ := hp
  simp only [h0, h1, h2, h3, h4]
  clear h0 h1 h2 h3 h4
  have hw1 : Below w.heap.size w w' := hb0.trans (Below.mono hb hb0.size)
  have CC2 := Lib.hid (CC.out w' hw1)
  clear hJ hb hb0 C1 C2 CC c0 c1 kB
  show wpList Tryz.prog _ _ [_] _ _
  go_wp2_with fail
  with_reducible refine CC2.out.mono ?_
  rintro e w2 ⟨rfl, hb2⟩
  have hw2 := hw1.trans (hb2.mono hw1.size)
  clear CC2 hb2 hw1
  go_wp2_with fail
  with_reducible refine (CH.out w2).mono ?_
  rintro e w3 ⟨rfl, rfl⟩
  go_wp2_with fail
  with_reducible refine (CT.out _ _).mono ?_
  rintro e w4 ⟨v, rfl, hO, hb4⟩
  have HO := Lib.hid (OwnI.low hO hw2.size)
  have hw4 := hw2.trans (hb4.mono hw2.size)
  clear hO hb4
  go_wp2_with fail
  go_returns
  exact ⟨_, rfl, HO.out, hw4⟩
set_option maxRecDepth 100000 in
set_option maxHeartbeats 1600000 in
theorem cstrings_ends_with (a b : ByteArray) (ha : a.size ≤ 65536) (n ab ao cc : Nat) (m : Int) (w : World) (hL : LaidE m w) (h0 : Arg1 w ab ao n 0 (textA a)) (h1 : Arg1 w ab ao n 1 (textA b)) :
    Calls Tryz.prog 53 #[.agg #[.pointer none, .slice (some ⟨ab, ao, none⟩) n cc], .string ⟨#[101, 110, 100, 115, 45, 119, 105, 116, 104]⟩] w fun e w' => ∃ v, e = .returned v ∧ OwnI w.heap.size w' v [truthA (Lib.hasSuffix a.data.toList b.data.toList)] ∧ Below w.heap.size w w' := by
  have hb0 : Below w.heap.size w (w.alloc (.cells #[.pointer none, .slice (some ⟨ab, ao, none⟩) n cc] 51)) := (Below.refl _ _).alloc (Nat.le_refl _) _
  have B0 : Blk (w.alloc (.cells #[.pointer none, .slice (some ⟨ab, ao, none⟩) n cc] 51)) w.heap.size #[.pointer none, .slice (some ⟨ab, ao, none⟩) n cc] 51 := Blk.new _ _ _
  have g0 := h0.on hb0
  have g1 := h1.on hb0
  have hsf : a.size ≤ 9223372036854775807 := by omega
  have CC := Lib.hid (fun (V : World) (hV : Below w.heap.size w V) => cut_call a b ha m V (hL.on hV))
  generalize cutA a b = BF at *
  generalize cutB a b = BH at *
  generalize cutO a b = OK at *
  have CT := Lib.hid truth_row
  have CH := Lib.hid (fun V => Tryz.strings_HasSuffix a b V hsf)
  generalize Lib.hasSuffix a.data.toList b.data.toList = PR at *
  clear h0 h1 hL
  go_enter Tryz.func53, Tryz.ntmps53
  go_wp2_with fail
  generalize w.alloc (.cells #[.pointer none, .slice (some ⟨ab, ao, none⟩) n cc] 51) = W at *
  have kB := B0.lt
  have c0 : W.cell? ⟨w.heap.size, 0, none⟩ = some (.pointer none) := B0.cell 0
  have c1 : W.cell? ⟨w.heap.size, 1, none⟩ = some (.slice (some ⟨ab, ao, none⟩) n cc) := B0.cell 1
  have C1 : Hid (∀ V, RG W V → Calls Tryz.prog 37 #[.agg #[.pointer none, .slice (some ⟨ab, ao, none⟩) n cc], .int .i64 0] V fun e w' => e = .returned (.string a) ∧ Below V.heap.size V w') := fun V hV => cstr_any a ab ao n cc 0 V (g0.on hV)
  have C2 : Hid (∀ V, RG W V → Calls Tryz.prog 37 #[.agg #[.pointer none, .slice (some ⟨ab, ao, none⟩) n cc], .int .i64 1] V fun e w' => e = .returned (.string b) ∧ Below V.heap.size V w') := fun V hV => cstr_any b ab ao n cc 1 V (g1.on hV)
  clear g0 g1 B0
  refine RC.region_steps (R := RG) 5 [some 76, some 77, some 78, some 79, some 11] (fun _ _ => True) (fun a b c h1 h2 => h1.trans (h2.mono h1.size)) (fun w => ⟨rfl, rfl, rfl, Nat.le_refl _, fun _ _ => rfl⟩) (fun _ => trivial) (by kernel_rfl) (by kernel_rfl) ?_
  -- 0: Op.load 51 (Operand.tmp 2)
  apply RC.ls_val (fun _ _ _ _ _ _ => trivial)
  · intro x w' hb hpre K hK
    have z0 := (hb.cell (p := ⟨w.heap.size, 0, none⟩) kB).trans c0
    have z1 := (hb.cell (p := ⟨w.heap.size, 1, none⟩) kB).trans c1
    have zs := hb.size
    clear hpre
    simp only [frL, Act.put, List.setIfInBounds_toArray, List.set_cons_zero, List.set_cons_succ, Nat.zero_add, Nat.reduceAdd] at hK ⊢
    have HK := Lib.hid hK
    clear hK
    refine Held.mk ?_
    go_simp
    exact HK.out _ (Below.refl _ _)
  -- 1: Op.call { callee := Callee.value (Operand.func 37), args := #[Operand.tmp 76, Op
  apply RC.ls_val (fun _ _ _ _ _ _ => trivial)
  · intro x w' hb hpre K hK
    have z0 := (hb.cell (p := ⟨w.heap.size, 0, none⟩) kB).trans c0
    have z1 := (hb.cell (p := ⟨w.heap.size, 1, none⟩) kB).trans c1
    have zs := hb.size
    simp [preds, Region.binds, RC.phi, RC.MP.val] at hpre
    simp only [frL, Act.put, List.setIfInBounds_toArray, List.set_cons_zero, List.set_cons_succ, Nat.zero_add, Nat.reduceAdd, hpre] at hK ⊢
    have HK := Lib.hid hK
    clear hK
    refine Held.mk ?_
    go_simp
    with_reducible refine (C1.out w' hb).mono ?_
    rintro e w2 ⟨rfl, hb1⟩
    dsimp only
    exact HK.out _ hb1
  -- 2: Op.load 51 (Operand.tmp 2)
  apply RC.ls_val (fun _ _ _ _ _ _ => trivial)
  · intro x w' hb hpre K hK
    have z0 := (hb.cell (p := ⟨w.heap.size, 0, none⟩) kB).trans c0
    have z1 := (hb.cell (p := ⟨w.heap.size, 1, none⟩) kB).trans c1
    have zs := hb.size
    clear hpre
    simp only [frL, Act.put, List.setIfInBounds_toArray, List.set_cons_zero, List.set_cons_succ, Nat.zero_add, Nat.reduceAdd] at hK ⊢
    have HK := Lib.hid hK
    clear hK
    refine Held.mk ?_
    go_simp
    exact HK.out _ (Below.refl _ _)
  -- 3: Op.call { callee := Callee.value (Operand.func 37), args := #[Operand.tmp 78, Op
  apply RC.ls_val (fun _ _ _ _ _ _ => trivial)
  · intro x w' hb hpre K hK
    have z0 := (hb.cell (p := ⟨w.heap.size, 0, none⟩) kB).trans c0
    have z1 := (hb.cell (p := ⟨w.heap.size, 1, none⟩) kB).trans c1
    have zs := hb.size
    simp [preds, Region.binds, RC.phi, RC.MP.val] at hpre
    simp only [frL, Act.put, List.setIfInBounds_toArray, List.set_cons_zero, List.set_cons_succ, Nat.zero_add, Nat.reduceAdd, hpre] at hK ⊢
    have HK := Lib.hid hK
    clear hK
    refine Held.mk ?_
    go_simp
    with_reducible refine (C2.out w' hb).mono ?_
    rintro e w2 ⟨rfl, hb1⟩
    dsimp only
    exact HK.out _ hb1
  -- 4: Op.assign (Operand.tmp 77)
  apply RC.ls_val (fun _ _ _ _ _ _ => trivial)
  · intro x w' hb hpre K hK
    have z0 := (hb.cell (p := ⟨w.heap.size, 0, none⟩) kB).trans c0
    have z1 := (hb.cell (p := ⟨w.heap.size, 1, none⟩) kB).trans c1
    have zs := hb.size
    simp [preds, Region.binds, RC.phi, RC.MP.val] at hpre
    simp only [frL, Act.put, List.setIfInBounds_toArray, List.set_cons_zero, List.set_cons_succ, Nat.zero_add, Nat.reduceAdd, hpre] at hK ⊢
    have HK := Lib.hid hK
    clear hK
    refine Held.mk ?_
    go_simp
    exact HK.out _ (Below.refl _ _)
  intro x w' hb hp hJ
  simp only [List.cons_append, List.nil_append, RC.phis, RC.MP.val, frL, Act.put, List.setIfInBounds_toArray, List.set_cons_zero, List.set_cons_succ, Nat.zero_add, Nat.reduceAdd] at hp ⊢
  obtain ⟨h0, h1, h2, h3, h4, -⟩ := hp
  simp only [h0, h1, h2, h3, h4]
  clear h0 h1 h2 h3 h4
  have hw1 : Below w.heap.size w w' := hb0.trans (Below.mono hb hb0.size)
  have CC2 := Lib.hid (CC.out w' hw1)
  clear hJ hb hb0 C1 C2 CC c0 c1 kB
  show wpList Tryz.prog _ _ [_] _ _
  go_wp2_with fail
  with_reducible refine CC2.out.mono ?_
  rintro e w2 ⟨rfl, hb2⟩
  have hw2 := hw1.trans (hb2.mono hw1.size)
  clear CC2 hb2 hw1
  go_wp2_with fail
  with_reducible refine (CH.out w2).mono ?_
  rintro e w3 ⟨rfl, rfl⟩
  go_wp2_with fail
  with_reducible refine (CT.out _ _).mono ?_
  rintro e w4 ⟨v, rfl, hO, hb4⟩
  have HO := Lib.hid (OwnI.low hO hw2.size)
  have hw4 := hw2.trans (hb4.mono hw2.size)
  clear hO hb4
  go_wp2_with fail
  go_returns
  exact ⟨_, rfl, HO.out, hw4⟩
set_option maxRecDepth 100000 in
set_option maxHeartbeats 1600000 in
theorem cstrings_substring_after (a b : ByteArray) (ha : a.size ≤ 65536) (n ab ao cc : Nat) (m : Int) (w : World) (hL : LaidE m w) (h0 : Arg1 w ab ao n 0 (textA a)) (h1 : Arg1 w ab ao n 1 (textA b)) :
    Calls Tryz.prog 53 #[.agg #[.pointer none, .slice (some ⟨ab, ao, none⟩) n cc], .string ⟨#[115, 117, 98, 115, 116, 114, 105, 110, 103, 45, 97, 102, 116, 101, 114]⟩] w fun e w' => ∃ v, e = .returned v ∧ OwnI w.heap.size w' v [textA (cutB a b)] ∧ Below w.heap.size w w' := by
  have hb0 : Below w.heap.size w (w.alloc (.cells #[.pointer none, .slice (some ⟨ab, ao, none⟩) n cc] 51)) := (Below.refl _ _).alloc (Nat.le_refl _) _
  have B0 : Blk (w.alloc (.cells #[.pointer none, .slice (some ⟨ab, ao, none⟩) n cc] 51)) w.heap.size #[.pointer none, .slice (some ⟨ab, ao, none⟩) n cc] 51 := Blk.new _ _ _
  have g0 := h0.on hb0
  have g1 := h1.on hb0
  have hsf : a.size ≤ 9223372036854775807 := by omega
  have CC := Lib.hid (fun (V : World) (hV : Below w.heap.size w V) => cut_call a b ha m V (hL.on hV))
  generalize cutA a b = BF at *
  generalize cutB a b = BH at *
  generalize cutO a b = OK at *
  have CT := Lib.hid text_row
  clear h0 h1 hL
  go_enter Tryz.func53, Tryz.ntmps53
  go_wp2_with fail
  generalize w.alloc (.cells #[.pointer none, .slice (some ⟨ab, ao, none⟩) n cc] 51) = W at *
  have kB := B0.lt
  have c0 : W.cell? ⟨w.heap.size, 0, none⟩ = some (.pointer none) := B0.cell 0
  have c1 : W.cell? ⟨w.heap.size, 1, none⟩ = some (.slice (some ⟨ab, ao, none⟩) n cc) := B0.cell 1
  have C1 : Hid (∀ V, RG W V → Calls Tryz.prog 37 #[.agg #[.pointer none, .slice (some ⟨ab, ao, none⟩) n cc], .int .i64 0] V fun e w' => e = .returned (.string a) ∧ Below V.heap.size V w') := fun V hV => cstr_any a ab ao n cc 0 V (g0.on hV)
  have C2 : Hid (∀ V, RG W V → Calls Tryz.prog 37 #[.agg #[.pointer none, .slice (some ⟨ab, ao, none⟩) n cc], .int .i64 1] V fun e w' => e = .returned (.string b) ∧ Below V.heap.size V w') := fun V hV => cstr_any b ab ao n cc 1 V (g1.on hV)
  clear g0 g1 B0
  refine RC.region_steps (R := RG) 5 [some 76, some 77, some 78, some 79, some 11] (fun _ _ => True) (fun a b c h1 h2 => h1.trans (h2.mono h1.size)) (fun w => ⟨rfl, rfl, rfl, Nat.le_refl _, fun _ _ => rfl⟩) (fun _ => trivial) (by kernel_rfl) (by kernel_rfl) ?_
  -- 0: Op.load 51 (Operand.tmp 2)
  apply RC.ls_val (fun _ _ _ _ _ _ => trivial)
  · intro x w' hb hpre K hK
    have z0 := (hb.cell (p := ⟨w.heap.size, 0, none⟩) kB).trans c0
    have z1 := (hb.cell (p := ⟨w.heap.size, 1, none⟩) kB).trans c1
    have zs := hb.size
    clear hpre
    simp only [frL, Act.put, List.setIfInBounds_toArray, List.set_cons_zero, List.set_cons_succ, Nat.zero_add, Nat.reduceAdd] at hK ⊢
    have HK := Lib.hid hK
    clear hK
    refine Held.mk ?_
    go_simp
    exact HK.out _ (Below.refl _ _)
  -- 1: Op.call { callee := Callee.value (Operand.func 37), args := #[Operand.tmp 76, Op
  apply RC.ls_val (fun _ _ _ _ _ _ => trivial)
  · intro x w' hb hpre K hK
    have z0 := (hb.cell (p := ⟨w.heap.size, 0, none⟩) kB).trans c0
    have z1 := (hb.cell (p := ⟨w.heap.size, 1, none⟩) kB).trans c1
    have zs := hb.size
    simp [preds, Region.binds, RC.phi, RC.MP.val] at hpre
    simp only [frL, Act.put, List.setIfInBounds_toArray, List.set_cons_zero, List.set_cons_succ, Nat.zero_add, Nat.reduceAdd, hpre] at hK ⊢
    have HK := Lib.hid hK
    clear hK
    refine Held.mk ?_
    go_simp
    with_reducible refine (C1.out w' hb).mono ?_
    rintro e w2 ⟨rfl, hb1⟩
    dsimp only
    exact HK.out _ hb1
  -- 2: Op.load 51 (Operand.tmp 2)
  apply RC.ls_val (fun _ _ _ _ _ _ => trivial)
  · intro x w' hb hpre K hK
    have z0 := (hb.cell (p := ⟨w.heap.size, 0, none⟩) kB).trans c0
    have z1 := (hb.cell (p := ⟨w.heap.size, 1, none⟩) kB).trans c1
    have zs := hb.size
    clear hpre
    simp only [frL, Act.put, List.setIfInBounds_toArray, List.set_cons_zero, List.set_cons_succ, Nat.zero_add, Nat.reduceAdd] at hK ⊢
    have HK := Lib.hid hK
    clear hK
    refine Held.mk ?_
    go_simp
    exact HK.out _ (Below.refl _ _)
  -- 3: Op.call { callee := Callee.value (Operand.func 37), args := #[Operand.tmp 78, Op
  apply RC.ls_val (fun _ _ _ _ _ _ => trivial)
  · intro x w' hb hpre K hK
    have z0 := (hb.cell (p := ⟨w.heap.size, 0, none⟩) kB).trans c0
    have z1 := (hb.cell (p := ⟨w.heap.size, 1, none⟩) kB).trans c1
    have zs := hb.size
    simp [preds, Region.binds, RC.phi, RC.MP.val] at hpre
    simp only [frL, Act.put, List.setIfInBounds_toArray, List.set_cons_zero, List.set_cons_succ, Nat.zero_add, Nat.reduceAdd, hpre] at hK ⊢
    have HK := Lib.hid hK
    clear hK
    refine Held.mk ?_
    go_simp
    with_reducible refine (C2.out w' hb).mono ?_
    rintro e w2 ⟨rfl, hb1⟩
    dsimp only
    exact HK.out _ hb1
  -- 4: Op.assign (Operand.tmp 77)
  apply RC.ls_val (fun _ _ _ _ _ _ => trivial)
  · intro x w' hb hpre K hK
    have z0 := (hb.cell (p := ⟨w.heap.size, 0, none⟩) kB).trans c0
    have z1 := (hb.cell (p := ⟨w.heap.size, 1, none⟩) kB).trans c1
    have zs := hb.size
    simp [preds, Region.binds, RC.phi, RC.MP.val] at hpre
    simp only [frL, Act.put, List.setIfInBounds_toArray, List.set_cons_zero, List.set_cons_succ, Nat.zero_add, Nat.reduceAdd, hpre] at hK ⊢
    have HK := Lib.hid hK
    clear hK
    refine Held.mk ?_
    go_simp
    exact HK.out _ (Below.refl _ _)
  intro x w' hb hp hJ
  simp only [List.cons_append, List.nil_append, RC.phis, RC.MP.val, frL, Act.put, List.setIfInBounds_toArray, List.set_cons_zero, List.set_cons_succ, Nat.zero_add, Nat.reduceAdd] at hp ⊢
  obtain ⟨h0, h1, h2, h3, h4, -⟩ := hp
  simp only [h0, h1, h2, h3, h4]
  clear h0 h1 h2 h3 h4
  have hw1 : Below w.heap.size w w' := hb0.trans (Below.mono hb hb0.size)
  have CC2 := Lib.hid (CC.out w' hw1)
  clear hJ hb hb0 C1 C2 CC c0 c1 kB
  show wpList Tryz.prog _ _ [_] _ _
  go_wp2_with fail
  with_reducible refine CC2.out.mono ?_
  rintro e w2 ⟨rfl, hb2⟩
  have hw2 := hw1.trans (hb2.mono hw1.size)
  clear CC2 hb2 hw1
  go_wp2_with fail
  with_reducible refine (CT.out _ _).mono ?_
  rintro e w4 ⟨v, rfl, hO, hb4⟩
  have HO := Lib.hid (OwnI.low hO hw2.size)
  have hw4 := hw2.trans (hb4.mono hw2.size)
  clear hO hb4
  go_wp2_with fail
  go_returns
  exact ⟨_, rfl, HO.out, hw4⟩
set_option maxRecDepth 100000 in
set_option maxHeartbeats 1600000 in
theorem cstrings_substring_before (a b : ByteArray) (ha : a.size ≤ 65536) (n ab ao cc : Nat) (m : Int) (w : World) (hL : LaidE m w) (h0 : Arg1 w ab ao n 0 (textA a)) (h1 : Arg1 w ab ao n 1 (textA b)) :
    Calls Tryz.prog 53 #[.agg #[.pointer none, .slice (some ⟨ab, ao, none⟩) n cc], .string ⟨#[115, 117, 98, 115, 116, 114, 105, 110, 103, 45, 98, 101, 102, 111, 114, 101]⟩] w fun e w' => ∃ v, e = .returned v ∧ OwnI w.heap.size w' v [textA (cutAO a b)] ∧ Below w.heap.size w w' := by
  have hb0 : Below w.heap.size w (w.alloc (.cells #[.pointer none, .slice (some ⟨ab, ao, none⟩) n cc] 51)) := (Below.refl _ _).alloc (Nat.le_refl _) _
  have B0 : Blk (w.alloc (.cells #[.pointer none, .slice (some ⟨ab, ao, none⟩) n cc] 51)) w.heap.size #[.pointer none, .slice (some ⟨ab, ao, none⟩) n cc] 51 := Blk.new _ _ _
  have g0 := h0.on hb0
  have g1 := h1.on hb0
  have hsf : a.size ≤ 9223372036854775807 := by omega
  have CC := Lib.hid (fun (V : World) (hV : Below w.heap.size w V) => cut_call a b ha m V (hL.on hV))
  have hR : cutAO a b = (if cutO a b then cutA a b else ⟨#[]⟩) := rfl
  generalize cutAO a b = R at *
  generalize cutA a b = BF at *
  generalize cutB a b = BH at *
  generalize cutO a b = OK at *
  have CT := Lib.hid text_row
  cases OK
  · have hR2 : R = ⟨#[]⟩ := hR
    subst hR2
    clear hR
    clear h0 h1 hL
    go_enter Tryz.func53, Tryz.ntmps53
    go_wp2_with fail
    generalize w.alloc (.cells #[.pointer none, .slice (some ⟨ab, ao, none⟩) n cc] 51) = W at *
    have kB := B0.lt
    have c0 : W.cell? ⟨w.heap.size, 0, none⟩ = some (.pointer none) := B0.cell 0
    have c1 : W.cell? ⟨w.heap.size, 1, none⟩ = some (.slice (some ⟨ab, ao, none⟩) n cc) := B0.cell 1
    have C1 : Hid (∀ V, RG W V → Calls Tryz.prog 37 #[.agg #[.pointer none, .slice (some ⟨ab, ao, none⟩) n cc], .int .i64 0] V fun e w' => e = .returned (.string a) ∧ Below V.heap.size V w') := fun V hV => cstr_any a ab ao n cc 0 V (g0.on hV)
    have C2 : Hid (∀ V, RG W V → Calls Tryz.prog 37 #[.agg #[.pointer none, .slice (some ⟨ab, ao, none⟩) n cc], .int .i64 1] V fun e w' => e = .returned (.string b) ∧ Below V.heap.size V w') := fun V hV => cstr_any b ab ao n cc 1 V (g1.on hV)
    clear g0 g1 B0
    refine RC.region_steps (R := RG) 5 [some 76, some 77, some 78, some 79, some 11] (fun _ _ => True) (fun a b c h1 h2 => h1.trans (h2.mono h1.size)) (fun w => ⟨rfl, rfl, rfl, Nat.le_refl _, fun _ _ => rfl⟩) (fun _ => trivial) (by kernel_rfl) (by kernel_rfl) ?_
    -- 0: Op.load 51 (Operand.tmp 2)
    apply RC.ls_val (fun _ _ _ _ _ _ => trivial)
    · intro x w' hb hpre K hK
      have z0 := (hb.cell (p := ⟨w.heap.size, 0, none⟩) kB).trans c0
      have z1 := (hb.cell (p := ⟨w.heap.size, 1, none⟩) kB).trans c1
      have zs := hb.size
      clear hpre
      simp only [frL, Act.put, List.setIfInBounds_toArray, List.set_cons_zero, List.set_cons_succ, Nat.zero_add, Nat.reduceAdd] at hK ⊢
      have HK := Lib.hid hK
      clear hK
      refine Held.mk ?_
      go_simp
      exact HK.out _ (Below.refl _ _)
    -- 1: Op.call { callee := Callee.value (Operand.func 37), args := #[Operand.tmp 76, Op
    apply RC.ls_val (fun _ _ _ _ _ _ => trivial)
    · intro x w' hb hpre K hK
      have z0 := (hb.cell (p := ⟨w.heap.size, 0, none⟩) kB).trans c0
      have z1 := (hb.cell (p := ⟨w.heap.size, 1, none⟩) kB).trans c1
      have zs := hb.size
      simp [preds, Region.binds, RC.phi, RC.MP.val] at hpre
      simp only [frL, Act.put, List.setIfInBounds_toArray, List.set_cons_zero, List.set_cons_succ, Nat.zero_add, Nat.reduceAdd, hpre] at hK ⊢
      have HK := Lib.hid hK
      clear hK
      refine Held.mk ?_
      go_simp
      with_reducible refine (C1.out w' hb).mono ?_
      rintro e w2 ⟨rfl, hb1⟩
      dsimp only
      exact HK.out _ hb1
    -- 2: Op.load 51 (Operand.tmp 2)
    apply RC.ls_val (fun _ _ _ _ _ _ => trivial)
    · intro x w' hb hpre K hK
      have z0 := (hb.cell (p := ⟨w.heap.size, 0, none⟩) kB).trans c0
      have z1 := (hb.cell (p := ⟨w.heap.size, 1, none⟩) kB).trans c1
      have zs := hb.size
      clear hpre
      simp only [frL, Act.put, List.setIfInBounds_toArray, List.set_cons_zero, List.set_cons_succ, Nat.zero_add, Nat.reduceAdd] at hK ⊢
      have HK := Lib.hid hK
      clear hK
      refine Held.mk ?_
      go_simp
      exact HK.out _ (Below.refl _ _)
    -- 3: Op.call { callee := Callee.value (Operand.func 37), args := #[Operand.tmp 78, Op
    apply RC.ls_val (fun _ _ _ _ _ _ => trivial)
    · intro x w' hb hpre K hK
      have z0 := (hb.cell (p := ⟨w.heap.size, 0, none⟩) kB).trans c0
      have z1 := (hb.cell (p := ⟨w.heap.size, 1, none⟩) kB).trans c1
      have zs := hb.size
      simp [preds, Region.binds, RC.phi, RC.MP.val] at hpre
      simp only [frL, Act.put, List.setIfInBounds_toArray, List.set_cons_zero, List.set_cons_succ, Nat.zero_add, Nat.reduceAdd, hpre] at hK ⊢
      have HK := Lib.hid hK
      clear hK
      refine Held.mk ?_
      go_simp
      with_reducible refine (C2.out w' hb).mono ?_
      rintro e w2 ⟨rfl, hb1⟩
      dsimp only
      exact HK.out _ hb1
    -- 4: Op.assign (Operand.tmp 77)
    apply RC.ls_val (fun _ _ _ _ _ _ => trivial)
    · intro x w' hb hpre K hK
      have z0 := (hb.cell (p := ⟨w.heap.size, 0, none⟩) kB).trans c0
      have z1 := (hb.cell (p := ⟨w.heap.size, 1, none⟩) kB).trans c1
      have zs := hb.size
      simp [preds, Region.binds, RC.phi, RC.MP.val] at hpre
      simp only [frL, Act.put, List.setIfInBounds_toArray, List.set_cons_zero, List.set_cons_succ, Nat.zero_add, Nat.reduceAdd, hpre] at hK ⊢
      have HK := Lib.hid hK
      clear hK
      refine Held.mk ?_
      go_simp
      exact HK.out _ (Below.refl _ _)
    intro x w' hb hp hJ
    simp only [List.cons_append, List.nil_append, RC.phis, RC.MP.val, frL, Act.put, List.setIfInBounds_toArray, List.set_cons_zero, List.set_cons_succ, Nat.zero_add, Nat.reduceAdd] at hp ⊢
    obtain ⟨h0, h1, h2, h3, h4, -⟩ := hp
    simp only [h0, h1, h2, h3, h4]
    clear h0 h1 h2 h3 h4
    have hw1 : Below w.heap.size w w' := hb0.trans (Below.mono hb hb0.size)
    have CC2 := Lib.hid (CC.out w' hw1)
    clear hJ hb hb0 C1 C2 CC c0 c1 kB
    show wpList Tryz.prog _ _ [_] _ _
    go_wp2_with fail
    with_reducible refine CC2.out.mono ?_
    rintro e w2 ⟨rfl, hb2⟩
    have hw2 := hw1.trans (hb2.mono hw1.size)
    clear CC2 hb2 hw1
    go_wp2_with fail
    with_reducible refine (CT.out _ _).mono ?_
    rintro e w4 ⟨v, rfl, hO, hb4⟩
    have HO := Lib.hid (OwnI.low hO hw2.size)
    have hw4 := hw2.trans (hb4.mono hw2.size)
    clear hO hb4
    go_wp2_with fail
    go_returns
    exact ⟨_, rfl, HO.out, hw4⟩
  · have hR2 : R = BF := hR
    subst hR2
    clear hR
    clear h0 h1 hL
    go_enter Tryz.func53, Tryz.ntmps53
    go_wp2_with fail
    generalize w.alloc (.cells #[.pointer none, .slice (some ⟨ab, ao, none⟩) n cc] 51) = W at *
    have kB := B0.lt
    have c0 : W.cell? ⟨w.heap.size, 0, none⟩ = some (.pointer none) := B0.cell 0
    have c1 : W.cell? ⟨w.heap.size, 1, none⟩ = some (.slice (some ⟨ab, ao, none⟩) n cc) := B0.cell 1
    have C1 : Hid (∀ V, RG W V → Calls Tryz.prog 37 #[.agg #[.pointer none, .slice (some ⟨ab, ao, none⟩) n cc], .int .i64 0] V fun e w' => e = .returned (.string a) ∧ Below V.heap.size V w') := fun V hV => cstr_any a ab ao n cc 0 V (g0.on hV)
    have C2 : Hid (∀ V, RG W V → Calls Tryz.prog 37 #[.agg #[.pointer none, .slice (some ⟨ab, ao, none⟩) n cc], .int .i64 1] V fun e w' => e = .returned (.string b) ∧ Below V.heap.size V w') := fun V hV => cstr_any b ab ao n cc 1 V (g1.on hV)
    clear g0 g1 B0
    refine RC.region_steps (R := RG) 5 [some 76, some 77, some 78, some 79, some 11] (fun _ _ => True) (fun a b c h1 h2 => h1.trans (h2.mono h1.size)) (fun w => ⟨rfl, rfl, rfl, Nat.le_refl _, fun _ _ => rfl⟩) (fun _ => trivial) (by kernel_rfl) (by kernel_rfl) ?_
    -- 0: Op.load 51 (Operand.tmp 2)
    apply RC.ls_val (fun _ _ _ _ _ _ => trivial)
    · intro x w' hb hpre K hK
      have z0 := (hb.cell (p := ⟨w.heap.size, 0, none⟩) kB).trans c0
      have z1 := (hb.cell (p := ⟨w.heap.size, 1, none⟩) kB).trans c1
      have zs := hb.size
      clear hpre
      simp only [frL, Act.put, List.setIfInBounds_toArray, List.set_cons_zero, List.set_cons_succ, Nat.zero_add, Nat.reduceAdd] at hK ⊢
      have HK := Lib.hid hK
      clear hK
      refine Held.mk ?_
      go_simp
      exact HK.out _ (Below.refl _ _)
    -- 1: Op.call { callee := Callee.value (Operand.func 37), args := #[Operand.tmp 76, Op
    apply RC.ls_val (fun _ _ _ _ _ _ => trivial)
    · intro x w' hb hpre K hK
      have z0 := (hb.cell (p := ⟨w.heap.size, 0, none⟩) kB).trans c0
      have z1 := (hb.cell (p := ⟨w.heap.size, 1, none⟩) kB).trans c1
      have zs := hb.size
      simp [preds, Region.binds, RC.phi, RC.MP.val] at hpre
      simp only [frL, Act.put, List.setIfInBounds_toArray, List.set_cons_zero, List.set_cons_succ, Nat.zero_add, Nat.reduceAdd, hpre] at hK ⊢
      have HK := Lib.hid hK
      clear hK
      refine Held.mk ?_
      go_simp
      with_reducible refine (C1.out w' hb).mono ?_
      rintro e w2 ⟨rfl, hb1⟩
      dsimp only
      exact HK.out _ hb1
    -- 2: Op.load 51 (Operand.tmp 2)
    apply RC.ls_val (fun _ _ _ _ _ _ => trivial)
    · intro x w' hb hpre K hK
      have z0 := (hb.cell (p := ⟨w.heap.size, 0, none⟩) kB).trans c0
      have z1 := (hb.cell (p := ⟨w.heap.size, 1, none⟩) kB).trans c1
      have zs := hb.size
      clear hpre
      simp only [frL, Act.put, List.setIfInBounds_toArray, List.set_cons_zero, List.set_cons_succ, Nat.zero_add, Nat.reduceAdd] at hK ⊢
      have HK := Lib.hid hK
      clear hK
      refine Held.mk ?_
      go_simp
      exact HK.out _ (Below.refl _ _)
    -- 3: Op.call { callee := Callee.value (Operand.func 37), args := #[Operand.tmp 78, Op
    apply RC.ls_val (fun _ _ _ _ _ _ => trivial)
    · intro x w' hb hpre K hK
      have z0 := (hb.cell (p := ⟨w.heap.size, 0, none⟩) kB).trans c0
      have z1 := (hb.cell (p := ⟨w.heap.size, 1, none⟩) kB).trans c1
      have zs := hb.size
      simp [preds, Region.binds, RC.phi, RC.MP.val] at hpre
      simp only [frL, Act.put, List.setIfInBounds_toArray, List.set_cons_zero, List.set_cons_succ, Nat.zero_add, Nat.reduceAdd, hpre] at hK ⊢
      have HK := Lib.hid hK
      clear hK
      refine Held.mk ?_
      go_simp
      with_reducible refine (C2.out w' hb).mono ?_
      rintro e w2 ⟨rfl, hb1⟩
      dsimp only
      exact HK.out _ hb1
    -- 4: Op.assign (Operand.tmp 77)
    apply RC.ls_val (fun _ _ _ _ _ _ => trivial)
    · intro x w' hb hpre K hK
      have z0 := (hb.cell (p := ⟨w.heap.size, 0, none⟩) kB).trans c0
      have z1 := (hb.cell (p := ⟨w.heap.size, 1, none⟩) kB).trans c1
      have zs := hb.size
      simp [preds, Region.binds, RC.phi, RC.MP.val] at hpre
      simp only [frL, Act.put, List.setIfInBounds_toArray, List.set_cons_zero, List.set_cons_succ, Nat.zero_add, Nat.reduceAdd, hpre] at hK ⊢
      have HK := Lib.hid hK
      clear hK
      refine Held.mk ?_
      go_simp
      exact HK.out _ (Below.refl _ _)
    intro x w' hb hp hJ
    simp only [List.cons_append, List.nil_append, RC.phis, RC.MP.val, frL, Act.put, List.setIfInBounds_toArray, List.set_cons_zero, List.set_cons_succ, Nat.zero_add, Nat.reduceAdd] at hp ⊢
    obtain ⟨h0, h1, h2, h3, h4, -⟩ := hp
    simp only [h0, h1, h2, h3, h4]
    clear h0 h1 h2 h3 h4
    have hw1 : Below w.heap.size w w' := hb0.trans (Below.mono hb hb0.size)
    have CC2 := Lib.hid (CC.out w' hw1)
    clear hJ hb hb0 C1 C2 CC c0 c1 kB
    show wpList Tryz.prog _ _ [_] _ _
    go_wp2_with fail
    with_reducible refine CC2.out.mono ?_
    rintro e w2 ⟨rfl, hb2⟩
    have hw2 := hw1.trans (hb2.mono hw1.size)
    clear CC2 hb2 hw1
    go_wp2_with fail
    with_reducible refine (CT.out _ _).mono ?_
    rintro e w4 ⟨v, rfl, hO, hb4⟩
    have HO := Lib.hid (OwnI.low hO hw2.size)
    have hw4 := hw2.trans (hb4.mono hw2.size)
    clear hO hb4
    go_wp2_with fail
    go_returns
    exact ⟨_, rfl, HO.out, hw4⟩
set_option maxRecDepth 100000 in
set_option maxHeartbeats 1600000 in
theorem cstrings_length (a : ByteArray) (ha : a.size ≤ 65536) (n ab ao cc : Nat) (w : World) (h0 : Arg1 w ab ao n 0 (textA a)) :
    Calls Tryz.prog 53 #[.agg #[.pointer none, .slice (some ⟨ab, ao, none⟩) n cc], .string ⟨#[115, 116, 114, 105, 110, 103, 45, 108, 101, 110, 103, 116, 104]⟩] w fun e w' => ∃ v, e = .returned v ∧ OwnI w.heap.size w' v [ofA ((Lib.runeCount a : Nat) : Int)] ∧ Below w.heap.size w w' := by
  have hb0 : Below w.heap.size w (w.alloc (.cells #[.pointer none, .slice (some ⟨ab, ao, none⟩) n cc] 51)) := (Below.refl _ _).alloc (Nat.le_refl _) _
  have C1 : Hid (Calls Tryz.prog 37 #[.agg #[.pointer none, .slice (some ⟨ab, ao, none⟩) n cc], .int .i64 0] (w.alloc (.cells #[.pointer none, .slice (some ⟨ab, ao, none⟩) n cc] 51)) fun e w' => e = .returned (.string a) ∧ Below (w.alloc (.cells #[.pointer none, .slice (some ⟨ab, ao, none⟩) n cc] 51)).heap.size (w.alloc (.cells #[.pointer none, .slice (some ⟨ab, ao, none⟩) n cc] 51)) w') := cstr_any a ab ao n cc 0 _ (h0.on hb0)
  have CL := Lib.hid (fun W => clen_any a (by omega) W)
  have CT := Lib.hid whole_row
  generalize ((Lib.runeCount a : Nat) : Int) = N at *
  clear h0
  go_enter Tryz.func53, Tryz.ntmps53
  go_wp2_with fail
  with_reducible refine C1.out.mono ?_
  rintro e w1 ⟨rfl, hb1⟩
  have hw1 := hb0.trans (hb1.mono hb0.size)
  clear C1 hb1 hb0
  go_wp2_with fail
  with_reducible refine (CL.out w1).mono ?_
  rintro e w2 ⟨rfl, hb2⟩
  have hw2 := hw1.trans (hb2.mono hw1.size)
  go_wp2_with fail
  with_reducible refine (CT.out _ _).mono ?_
  rintro e w4 ⟨v, rfl, hO, hb4⟩
  have HO := Lib.hid (OwnI.low hO hw2.size)
  have hw4 := hw2.trans (hb4.mono hw2.size)
  clear hO hb4
  go_wp2_with fail
  go_returns
  exact ⟨_, rfl, HO.out, hw4⟩
end Go.Proofs.YtfagfkfcokmclaaGreatDoor

/- Texts put together: LdF, LdG, LdH. -/
import Derived.Test.YtfagfkfcokmclaaGreatDoorZLdD
import Derived.Test.YtfagfkfcokmclaaGreatDoorZLdA
section
set_option linter.unusedSimpArgs false
set_option linter.unusedVariables false
set_option linter.constructorNameAsVariable false
namespace Go.Proofs.YtfagfkfcokmclaaGreatDoor
open Go.RowKit Go.Sort

theorem OwnV.readc {w : World} {base : Nat} {v : Value} {xs : List At} (h : OwnV base w v xs) : ∃ a c, v = .slice a xs.length c ∧ VRow w a xs ∧ xs.length ≤ c := by
  obtain ⟨a, c, rfl, hV, -⟩ := h.read
  refine ⟨a, c, rfl, hV, ?_⟩
  rcases h.2 with ⟨he, h0⟩ | ⟨g, cap, cur, he, h1, h2, h3, h4⟩
  · omega
  · cases he
    exact h3
def MPtc (xs : List At) : RC.MP RG := ⟨fun v w => ∃ a c, v = .tuple #[.slice a xs.length c, .int .i64 0] ∧ VRow w a xs ∧ xs.length ≤ c, fun v w w' ⟨a, c, h1, h2, h3⟩ hr => ⟨a, c, h1, h2.on hr, h3⟩⟩
def MPsc (xs : List At) : RC.MP RG := ⟨fun v w => ∃ a c, v = .slice a xs.length c ∧ VRow w a xs ∧ xs.length ≤ c, fun v w w' ⟨a, c, h1, h2, h3⟩ hr => ⟨a, c, h1, h2.on hr, h3⟩⟩
set_option maxRecDepth 100000 in
set_option maxHeartbeats 800000 in
theorem catoms_cap (xs : List At) (ab ao n cc : Nat) (i : Nat) (a : Option Addr) (c : Nat) (w : World) (hI : ItRow w a xs) (hl : xs.length ≤ 100000000) (hsz : sumT xs ≤ 65536) (hi : i < n) (hn : n ≤ 1000000) (hab : ab < w.heap.size) (hc : w.cell? ⟨ab, ao + i, none⟩ = some (.slice a xs.length c)) :
    Calls Tryz.prog 32 #[.agg #[.pointer none, .slice (some ⟨ab, ao, none⟩) n cc], .int .i64 (i : Int)] w fun e w' => ∃ a c, e = .returned (.slice a xs.length c) ∧ VRow w' a xs ∧ xs.length ≤ c ∧ Below w.heap.size w w' := by
  have hb0 : Below w.heap.size w (w.alloc (.cells #[.pointer none, .slice (some ⟨ab, ao, none⟩) n cc] 51)) := (Below.refl _ _).alloc (Nat.le_refl _) _
  have B0 : Blk (w.alloc (.cells #[.pointer none, .slice (some ⟨ab, ao, none⟩) n cc] 51)) w.heap.size #[.pointer none, .slice (some ⟨ab, ao, none⟩) n cc] 51 := Blk.new _ _ _
  have hc1 := (hb0.cell (p := ⟨ab, ao + i, none⟩) hab).trans hc
  have hI1 := hI.on hb0
  have i6 : (i : Int) < (n : Int) := by omega
  have hj0 : (0 : Int) ≤ (i : Int) := Int.natCast_nonneg _
  clear hI hc
  go_enter Tryz.func32, Tryz.ntmps32
  go_wp2_with fail
  generalize w.alloc (.cells #[.pointer none, .slice (some ⟨ab, ao, none⟩) n cc] 51) = W at *
  have c0 : W.cell? ⟨w.heap.size, 0, none⟩ = some (.pointer none) := B0.cell 0
  have c1 : W.cell? ⟨w.heap.size, 1, none⟩ = some (.slice (some ⟨ab, ao, none⟩) n cc) := B0.cell 1
  have kB := B0.lt
  have kA := Nat.lt_of_lt_of_le hab hb0.size
  have HI := Lib.hid hI1
  have HC := Lib.hid (fun (V : World) (hV : RG W V) => values_any xs (.pointer none) a c V (hI1.on hV) hl hsz)
  clear B0 hI1
  refine RC.region_steps (R := RG) 11 [some 5, some 6, some 7, some 8, some 9, some 10, some 11, some 12, some 13, some 14, some 15] (fun _ _ => True) (fun a b c h1 h2 => h1.trans (h2.mono h1.size)) (fun w => below_drewN (Below.refl _ w) 1) (fun _ => trivial) (by kernel_rfl) (by kernel_rfl) ?_
  -- 0: Op.fieldAddr 51 (Operand.tmp 2) 0
  apply RC.ls_val (fun _ _ _ _ _ _ => trivial)
  · intro x w' hb hpre K hK
    have z0 := (hb.cell (p := ⟨w.heap.size, 0, none⟩) kB).trans c0
    have z1 := (hb.cell (p := ⟨w.heap.size, 1, none⟩) kB).trans c1
    have z2 := (hb.cell (p := ⟨ab, ao + i, none⟩) kA).trans hc1
    have zs := hb.size
    clear hpre
    simp only [frL, Act.put, List.setIfInBounds_toArray, List.set_cons_zero, List.set_cons_succ, Nat.zero_add, Nat.reduceAdd] at hK ⊢
    have HK := Lib.hid hK
    clear hK
    refine Held.mk ?_
    go_simp
    exact HK.out _ (Below.refl _ _)
  -- 1: Op.load 46 (Operand.tmp 5)
  apply RC.ls_val (fun _ _ _ _ _ _ => trivial)
  · intro x w' hb hpre K hK
    have z0 := (hb.cell (p := ⟨w.heap.size, 0, none⟩) kB).trans c0
    have z1 := (hb.cell (p := ⟨w.heap.size, 1, none⟩) kB).trans c1
    have z2 := (hb.cell (p := ⟨ab, ao + i, none⟩) kA).trans hc1
    have zs := hb.size
    simp [preds, Region.binds, RC.phi, RC.MP.val] at hpre
    simp only [frL, Act.put, List.setIfInBounds_toArray, List.set_cons_zero, List.set_cons_succ, Nat.zero_add, Nat.reduceAdd, hpre] at hK ⊢
    have HK := Lib.hid hK
    clear hK
    refine Held.mk ?_
    go_simp
    exact HK.out _ (Below.refl _ _)
  -- 2: Op.fieldAddr 51 (Operand.tmp 2) 1
  apply RC.ls_val (fun _ _ _ _ _ _ => trivial)
  · intro x w' hb hpre K hK
    have z0 := (hb.cell (p := ⟨w.heap.size, 0, none⟩) kB).trans c0
    have z1 := (hb.cell (p := ⟨w.heap.size, 1, none⟩) kB).trans c1
    have z2 := (hb.cell (p := ⟨ab, ao + i, none⟩) kA).trans hc1
    have zs := hb.size
    clear hpre
    simp only [frL, Act.put, List.setIfInBounds_toArray, List.set_cons_zero, List.set_cons_succ, Nat.zero_add, Nat.reduceAdd] at hK ⊢
    have HK := Lib.hid hK
    clear hK
    refine Held.mk ?_
    go_simp
    exact HK.out _ (Below.refl _ _)
  -- 3: Op.load 47 (Operand.tmp 7)
  apply RC.ls_val (fun _ _ _ _ _ _ => trivial)
  · intro x w' hb hpre K hK
    have z0 := (hb.cell (p := ⟨w.heap.size, 0, none⟩) kB).trans c0
    have z1 := (hb.cell (p := ⟨w.heap.size, 1, none⟩) kB).trans c1
    have z2 := (hb.cell (p := ⟨ab, ao + i, none⟩) kA).trans hc1
    have zs := hb.size
    simp [preds, Region.binds, RC.phi, RC.MP.val] at hpre
    simp only [frL, Act.put, List.setIfInBounds_toArray, List.set_cons_zero, List.set_cons_succ, Nat.zero_add, Nat.reduceAdd, hpre] at hK ⊢
    have HK := Lib.hid hK
    clear hK
    refine Held.mk ?_
    go_simp
    exact HK.out _ (Below.refl _ _)
  -- 4: Op.move (Operand.tmp 1)
  apply RC.ls_val (fun _ _ _ _ _ _ => trivial)
  · intro x w' hb hpre K hK
    have z0 := (hb.cell (p := ⟨w.heap.size, 0, none⟩) kB).trans c0
    have z1 := (hb.cell (p := ⟨w.heap.size, 1, none⟩) kB).trans c1
    have z2 := (hb.cell (p := ⟨ab, ao + i, none⟩) kA).trans hc1
    have zs := hb.size
    clear hpre
    simp only [frL, Act.put, List.setIfInBounds_toArray, List.set_cons_zero, List.set_cons_succ, Nat.zero_add, Nat.reduceAdd] at hK ⊢
    have HK := Lib.hid hK
    clear hK
    refine Held.mk ?_
    go_simp
    exact HK.out _ (Below.refl _ _)
  -- 5: Op.indexAddr 47 (Operand.tmp 8) (Operand.tmp 9)
  apply RC.ls_val (fun _ _ _ _ _ _ => trivial)
  · intro x w' hb hpre K hK
    have z0 := (hb.cell (p := ⟨w.heap.size, 0, none⟩) kB).trans c0
    have z1 := (hb.cell (p := ⟨w.heap.size, 1, none⟩) kB).trans c1
    have z2 := (hb.cell (p := ⟨ab, ao + i, none⟩) kA).trans hc1
    have zs := hb.size
    simp [preds, Region.binds, RC.phi, RC.MP.val] at hpre
    simp only [frL, Act.put, List.setIfInBounds_toArray, List.set_cons_zero, List.set_cons_succ, Nat.zero_add, Nat.reduceAdd, hpre] at hK ⊢
    have HK := Lib.hid hK
    clear hK
    refine Held.mk ?_
    go_simp
    exact HK.out _ (Below.refl _ _)
  -- 6: Op.load 29 (Operand.tmp 10)
  apply RC.ls_val (fun _ _ _ _ _ _ => trivial)
  · intro x w' hb hpre K hK
    have z0 := (hb.cell (p := ⟨w.heap.size, 0, none⟩) kB).trans c0
    have z1 := (hb.cell (p := ⟨w.heap.size, 1, none⟩) kB).trans c1
    have z2 := (hb.cell (p := ⟨ab, ao + i, none⟩) kA).trans hc1
    have zs := hb.size
    simp [preds, Region.binds, RC.phi, RC.MP.val] at hpre
    simp only [frL, Act.put, List.setIfInBounds_toArray, List.set_cons_zero, List.set_cons_succ, Nat.zero_add, Nat.reduceAdd, hpre] at hK ⊢
    have HK := Lib.hid hK
    clear hK
    refine Held.mk ?_
    go_simp
    exact HK.out _ (Below.refl _ _)
  -- 7: Op.call { callee := Callee.value (Operand.func 67), args := #[Operand.tmp 6, Ope
  refine RC.ls_gen (MPtc xs) ?_ ?_
  · intro x w' hb hj hpre K hK
    have p0 := hpre.1 rfl
    have p1 := hpre.2.1 rfl
    clear hpre
    simp [RC.phi, RC.MP.val] at p0 p1
    simp only [frL, Act.put, List.setIfInBounds_toArray, List.set_cons_zero, List.set_cons_succ, Nat.zero_add, Nat.reduceAdd, p0, p1] at hK ⊢
    have HK := Lib.hid hK
    clear hK
    refine Held.mk ?_
    go_simp
    with_reducible refine (HC.out w' hb).mono ?_
    rintro e w1 ⟨v, rfl, h1, hb1⟩
    obtain ⟨a9, c9, rfl, h2, h3⟩ := h1.readc
    dsimp only
    exact HK.out _ _ ⟨_, _, rfl, h2, h3⟩ trivial hb1
  -- 8: Op.extract (Operand.tmp 12) 0
  refine RC.ls_gen (MPsc xs) ?_ ?_
  · intro x w' hb hj hpre K hK
    obtain ⟨a9, c9, p0, h2, h3⟩ : ∃ a c, x 7 = .tuple #[.slice a xs.length c, .int .i64 0] ∧ VRow w' a xs ∧ xs.length ≤ c := hpre.1 rfl
    clear hpre
    simp only [frL, Act.put, List.setIfInBounds_toArray, List.set_cons_zero, List.set_cons_succ, Nat.zero_add, Nat.reduceAdd, p0] at hK ⊢
    have HK := Lib.hid hK
    clear hK
    refine Held.mk ?_
    go_simp
    exact HK.out _ _ ⟨_, _, rfl, h2, h3⟩ trivial (Below.refl _ _)
  -- 9: Op.extract (Operand.tmp 12) 1
  refine RC.ls_gen (RC.MP.val (.int .i64 0)) ?_ ?_
  · intro x w' hb hj hpre K hK
    obtain ⟨a9, c9, p0, h2, h3⟩ : ∃ a c, x 7 = .tuple #[.slice a xs.length c, .int .i64 0] ∧ VRow w' a xs ∧ xs.length ≤ c := hpre.1 rfl
    clear hpre
    simp only [frL, Act.put, List.setIfInBounds_toArray, List.set_cons_zero, List.set_cons_succ, Nat.zero_add, Nat.reduceAdd, p0] at hK ⊢
    have HK := Lib.hid hK
    clear hK
    refine Held.mk ?_
    go_simp
    exact HK.out _ _ rfl trivial (Below.refl _ _)
  -- 10: Op.call { callee := Callee.value (Operand.func 66), args := #[Operand.tmp 13, Op
  refine RC.ls_gen (MPsc xs) ?_ ?_
  · intro x w' hb hj hpre K hK
    obtain ⟨a9, c9, p0, h2, h3⟩ : ∃ a c, x 8 = .slice a xs.length c ∧ VRow w' a xs ∧ xs.length ≤ c := hpre.1 rfl
    have p1 : x 9 = .int .i64 0 := hpre.2.1 rfl
    clear hpre
    simp only [frL, Act.put, List.setIfInBounds_toArray, List.set_cons_zero, List.set_cons_succ, Nat.zero_add, Nat.reduceAdd, p0, p1] at hK ⊢
    have HK := Lib.hid hK
    clear hK
    refine Held.mk ?_
    go_simp
    with_reducible refine (must_row _ w').mono ?_
    rintro e w1 ⟨rfl, rfl⟩
    dsimp only
    exact HK.out _ _ ⟨_, _, rfl, h2, h3⟩ trivial (Below.refl _ _)
  intro x w' hb hp hJ
  simp only [List.cons_append, List.nil_append, RC.phis, RC.MP.val, frL, Act.put, List.setIfInBounds_toArray, List.set_cons_zero, List.set_cons_succ, Nat.zero_add, Nat.reduceAdd] at hp ⊢
  obtain ⟨h0, h1, h2, h3, h4, h5, h6, h7, h8, h9, h10, -⟩ := hp
  simp only [h0, h1, h2, h3, h4, h5, h6]
  clear h0 h1 h2 h3 h4 h5 h6
  obtain ⟨a9, c9, e10, hV9, hn9⟩ : ∃ a c, x 10 = .slice a xs.length c ∧ VRow w' a xs ∧ xs.length ≤ c := h10
  simp only [e10]
  have hw9 : Below w.heap.size w w' := hb0.trans (hb.mono hb0.size)
  have HV := Lib.hid (And.intro hV9 hn9)
  clear h7 h8 h9 hV9 hn9 e10 hJ
  show wpList Tryz.prog _ _ [_] _ _
  go_wp2_with fail
  go_returns
  exact ⟨_, _, rfl, HV.out.1, HV.out.2, hw9⟩
/-- As a call asks it. -/
theorem catoms_argR (xs : List At) (ab ao n cc i : Nat) (w : World) (h : ArgR w ab ao n i xs) :
    Calls Tryz.prog 32 #[.agg #[.pointer none, .slice (some ⟨ab, ao, none⟩) n cc], .int .i64 (i : Int)] w fun e w' => ∃ a c, e = .returned (.slice a xs.length c) ∧ VRow w' a xs ∧ xs.length ≤ c ∧ Below w.heap.size w w' := by
  obtain ⟨h1, h2, h3, ⟨a, c, h4, h5⟩, h6, h7⟩ := h
  exact catoms_cap xs ab ao n cc i a c w h5 h7 h6 h1 h2 h3 h4
end Go.Proofs.YtfagfkfcokmclaaGreatDoor
end
section
set_option linter.unusedSimpArgs false
set_option linter.unusedVariables false
set_option linter.constructorNameAsVariable false
namespace Go.Proofs.YtfagfkfcokmclaaGreatDoor
open Go.RowKit Go.Sort

theorem sum_bd (B : Int) (ns : List Int) (h : ∀ x ∈ ns, -B ≤ x ∧ x ≤ B) : -(B * (ns.length : Int)) ≤ ns.sum ∧ ns.sum ≤ B * (ns.length : Int) := by
  induction ns with
  | nil => simp
  | cons p r ih =>
    have h1 := h p (by simp)
    have h2 := ih (fun x hx => h x (by simp [hx]))
    rw [List.sum_cons, List.length_cons]
    push_cast
    rw [Int.mul_add]
    omega
theorem sum_take_bd (ns : List Int) (h : ∀ x ∈ ns, -1000000 ≤ x ∧ x ≤ 1000000) (hl : ns.length ≤ 1000000) (j : Nat) : -1000000000000 ≤ (ns.take j).sum ∧ (ns.take j).sum ≤ 1000000000000 := by
  have := sum_bd 1000000 (ns.take j) (fun x hx => h x (List.mem_of_mem_take hx))
  have hj : (ns.take j).length ≤ 1000000 := by rw [List.length_take]; omega
  omega
set_option maxRecDepth 100000 in
set_option maxHeartbeats 3200000 in
theorem total_one (ns : List Int) (h1 : ns.length = 1) (hx : ∀ x ∈ ns, -1000000 ≤ x ∧ x ≤ 1000000) (hl : ns.length ≤ 1000000) (a : Option Addr) (c : Nat) (w : World) (hV : VRow w a (ns.map ofA)) (hc : ns.length ≤ c) :
    Calls Tryz.prog 43 #[.slice a ns.length c] w fun e w' => e = .returned (.agg #[.int .i64 1, .int .i64 ns.sum, .int .i64 0, .string ⟨#[]⟩, .bool false]) ∧ Below w.heap.size w w' := by
  have CN : Hid (∀ n w, Calls Tryz.prog 84 #[.agg #[.int .i64 1, .int .i64 n, .int .i64 0, .string ⟨#[]⟩, .bool false]] w fun e w' => e = .returned (.agg #[.int .i64 1, .int .i64 n, .int .i64 0, .string ⟨#[]⟩, .bool false]) ∧ Below w.heap.size w w') := fun n w => numeric_num 1 n 0 ⟨#[]⟩ false rfl w
  have CM : Hid (∀ n w, Calls Tryz.prog 41 #[.agg #[.int .i64 1, .int .i64 n, .int .i64 0, .string ⟨#[]⟩, .bool false], .int .i64 0] w fun e w' => e = .returned (.agg #[.int .i64 1, .int .i64 n, .int .i64 0, .string ⟨#[]⟩, .bool false]) ∧ Below w.heap.size w w') := fun n w => must_atom 1 n 0 ⟨#[]⟩ false w
  have CR := Lib.hid reckon_int
  have hne : ns ≠ [] := by intro h0; subst h0; simp at h1
  have hl0 : 0 < ns.length := List.length_pos_iff.2 hne
  have l0 : (0 : Int) < (ns.length : Int) := by omega
  obtain ⟨b, o, rfl, hb, hcell⟩ : ∃ b o, a = some ⟨b, o, none⟩ ∧ b < w.heap.size ∧ ∀ j x, ns[j]? = some x → w.cell? ⟨b, o + j * 5, none⟩ = some (.int .i64 1) ∧ w.cell? ⟨b, o + j * 5 + 1, none⟩ = some (.int .i64 x) ∧ w.cell? ⟨b, o + j * 5 + 2, none⟩ = some (.int .i64 0) ∧ w.cell? ⟨b, o + j * 5 + 3, none⟩ = some (.string ⟨#[]⟩) ∧ w.cell? ⟨b, o + j * 5 + 4, none⟩ = some (.bool false) := by
    rcases hV with h0 | ⟨b, o, rfl, hb, hcc⟩
    · exact absurd (List.map_eq_nil_iff.1 h0) hne
    · exact ⟨b, o, rfl, hb, fun j x hj => hcc j (ofA x) (by rw [List.getElem?_map, hj]; rfl)⟩
  obtain ⟨x0, hx0⟩ : ∃ x, ns[0]? = some x := ⟨_, List.getElem?_eq_getElem hl0⟩
  obtain ⟨v0, v1, v2, v3, v4⟩ := hcell 0 x0 hx0
  simp only [Nat.zero_mul, Nat.add_zero] at v0 v1 v2 v3 v4
  have hs0 : (ns.take 1).sum = x0 := by
    rw [List.take_add_one, hx0]
    simp
  have HS0 := Lib.hid hs0
  have HX := Lib.hid (And.intro hx hcell)
  have hw0 : Below w.heap.size w (w.alloc (.cells #[.int .i64 0, .int .i64 0, .int .i64 0, .string ⟨#[]⟩, .bool false] 24)) := (Below.refl _ _).alloc (Nat.le_refl _) _
  have B2 : Blk (w.alloc (.cells #[.int .i64 0, .int .i64 0, .int .i64 0, .string ⟨#[]⟩, .bool false] 24)) w.heap.size #[.int .i64 0, .int .i64 0, .int .i64 0, .string ⟨#[]⟩, .bool false] 24 := Blk.new _ _ _
  clear hV hx hcell hx0 hne hs0
  go_enter Tryz.func43, Tryz.ntmps43
  go_wp2_with fail
  generalize w.alloc (.cells #[.int .i64 0, .int .i64 0, .int .i64 0, .string ⟨#[]⟩, .bool false] 24) = W at *
  with_reducible refine (CN.out x0 W).mono ?_
  rintro e w1 ⟨rfl, hb1⟩
  have hw1 := hw0.trans (hb1.mono hw0.size)
  replace B2 := B2.below hb1 B2.lt
  have s1 := hw1.size
  have D3 : Blk (w1.alloc (.cells #[.int .i64 1, .int .i64 x0, .int .i64 0, .string ⟨#[]⟩, .bool false] 24)) w1.heap.size #[.int .i64 1, .int .i64 x0, .int .i64 0, .string ⟨#[]⟩, .bool false] 24 := Blk.new _ _ _
  replace B2 := B2.alloc (.cells #[.int .i64 1, .int .i64 x0, .int .i64 0, .string ⟨#[]⟩, .bool false] 24)
  have hw2 := hw1.alloc s1 (.cells #[.int .i64 1, .int .i64 x0, .int .i64 0, .string ⟨#[]⟩, .bool false] 24)
  clear hb1 hw0 hw1 v0 v1 v2 v3 v4
  go_wp2_with fail
  all_goals
    generalize w1.alloc (.cells #[.int .i64 1, .int .i64 x0, .int .i64 0, .string ⟨#[]⟩, .bool false] 24) = W2 at *
    have hsum : x0 = ns.sum := by
      have := HS0.out
      rw [List.take_of_length_le (by omega)] at this
      exact this.symm
    subst hsum
    have hz : ns.length - 1 = 0 := by omega
    try simp only [hz]
    go_loopg [13] 0 (fun _ ii wr => ii = .int .i64 0 ∧ wr = W2)
    case atStart => exact ⟨rfl, rfl⟩
    case round =>
      obtain ⟨rfl, rfl⟩ := hrel
      obtain ⟨⟨y0, y1, y2, y3, y4⟩, -⟩ := D3.five
      obtain ⟨⟨a0, a1, a2, a3, a4⟩, ⟨f0, f1, f2, f3, f4⟩⟩ := B2.five
      have k2 := B2.lt
      have k3 := D3.lt
      have B7 := ((((Blk.set B2 0 (.int .i64 1)).set 1 (.int .i64 ns.sum)).set 2 (.int .i64 0)).set 3 (.string ⟨#[]⟩)).set 4 (.bool false)
      have hw8 : Below w.heap.size w (((((wr.setCell ⟨w.heap.size, 0, none⟩ (.int .i64 1)).setCell ⟨w.heap.size, 1, none⟩ (.int .i64 ns.sum)).setCell ⟨w.heap.size, 2, none⟩ (.int .i64 0)).setCell ⟨w.heap.size, 3, none⟩ (.string ⟨#[]⟩)).setCell ⟨w.heap.size, 4, none⟩ (.bool false)) := ((((hw2.setCell (Nat.le_refl _) _).setCell (Nat.le_refl _) _).setCell (Nat.le_refl _) _).setCell (Nat.le_refl _) _).setCell (Nat.le_refl _) _
      have q0 := B7.cell 0
      have q1 := B7.cell 1
      have q2 := B7.cell 2
      have q3 := B7.cell 3
      have q4 := B7.cell 4
      have HQ := Lib.hid (And.intro q0 (And.intro q1 (And.intro q2 (And.intro q3 (And.intro q4 hw8)))))
      clear q0 q1 q2 q3 q4 hw8 B7 B2 D3 hw2
      go_wp2_with fail
      obtain ⟨q0, q1, q2, q3, q4, hw8⟩ := HQ.out
      generalize (((((wr.setCell ⟨w.heap.size, 0, none⟩ (.int .i64 1)).setCell ⟨w.heap.size, 1, none⟩ (.int .i64 ns.sum)).setCell ⟨w.heap.size, 2, none⟩ (.int .i64 0)).setCell ⟨w.heap.size, 3, none⟩ (.string ⟨#[]⟩)).setCell ⟨w.heap.size, 4, none⟩ (.bool false)) = w8 at *
      simp at q0 q1 q2 q3 q4
      refine bodyPost_ret (v := .agg #[.int .i64 1, .int .i64 ns.sum, .int .i64 0, .string ⟨#[]⟩, .bool false]) ?_ rfl ⟨rfl, hw8⟩
      simp [results, Tryz.results43, go_sem, q0, q1, q2, q3, q4]
set_option maxRecDepth 100000 in
set_option maxHeartbeats 3200000 in
theorem total_more (ns : List Int) (h1 : 1 < ns.length) (hx : ∀ x ∈ ns, -1000000 ≤ x ∧ x ≤ 1000000) (hl : ns.length ≤ 1000000) (a : Option Addr) (c : Nat) (w : World) (hV : VRow w a (ns.map ofA)) (hc : ns.length ≤ c) :
    Calls Tryz.prog 43 #[.slice a ns.length c] w fun e w' => e = .returned (.agg #[.int .i64 1, .int .i64 ns.sum, .int .i64 0, .string ⟨#[]⟩, .bool false]) ∧ Below w.heap.size w w' := by
  have hc1 : ¬ c = 1 := by omega
  have CN : Hid (∀ n w, Calls Tryz.prog 84 #[.agg #[.int .i64 1, .int .i64 n, .int .i64 0, .string ⟨#[]⟩, .bool false]] w fun e w' => e = .returned (.agg #[.int .i64 1, .int .i64 n, .int .i64 0, .string ⟨#[]⟩, .bool false]) ∧ Below w.heap.size w w') := fun n w => numeric_num 1 n 0 ⟨#[]⟩ false rfl w
  have CM : Hid (∀ n w, Calls Tryz.prog 41 #[.agg #[.int .i64 1, .int .i64 n, .int .i64 0, .string ⟨#[]⟩, .bool false], .int .i64 0] w fun e w' => e = .returned (.agg #[.int .i64 1, .int .i64 n, .int .i64 0, .string ⟨#[]⟩, .bool false]) ∧ Below w.heap.size w w') := fun n w => must_atom 1 n 0 ⟨#[]⟩ false w
  have CR := Lib.hid reckon_int
  have hne : ns ≠ [] := by intro h0; subst h0; simp at h1
  have hl0 : 0 < ns.length := List.length_pos_iff.2 hne
  have l0 : (0 : Int) < (ns.length : Int) := by omega
  obtain ⟨b, o, rfl, hb, hcell⟩ : ∃ b o, a = some ⟨b, o, none⟩ ∧ b < w.heap.size ∧ ∀ j x, ns[j]? = some x → w.cell? ⟨b, o + j * 5, none⟩ = some (.int .i64 1) ∧ w.cell? ⟨b, o + j * 5 + 1, none⟩ = some (.int .i64 x) ∧ w.cell? ⟨b, o + j * 5 + 2, none⟩ = some (.int .i64 0) ∧ w.cell? ⟨b, o + j * 5 + 3, none⟩ = some (.string ⟨#[]⟩) ∧ w.cell? ⟨b, o + j * 5 + 4, none⟩ = some (.bool false) := by
    rcases hV with h0 | ⟨b, o, rfl, hb, hcc⟩
    · exact absurd (List.map_eq_nil_iff.1 h0) hne
    · exact ⟨b, o, rfl, hb, fun j x hj => hcc j (ofA x) (by rw [List.getElem?_map, hj]; rfl)⟩
  obtain ⟨x0, hx0⟩ : ∃ x, ns[0]? = some x := ⟨_, List.getElem?_eq_getElem hl0⟩
  obtain ⟨v0, v1, v2, v3, v4⟩ := hcell 0 x0 hx0
  simp only [Nat.zero_mul, Nat.add_zero] at v0 v1 v2 v3 v4
  have hs0 : (ns.take 1).sum = x0 := by
    rw [List.take_add_one, hx0]
    simp
  have HS0 := Lib.hid hs0
  have HX := Lib.hid (And.intro hx hcell)
  have hw0 : Below w.heap.size w (w.alloc (.cells #[.int .i64 0, .int .i64 0, .int .i64 0, .string ⟨#[]⟩, .bool false] 24)) := (Below.refl _ _).alloc (Nat.le_refl _) _
  have B2 : Blk (w.alloc (.cells #[.int .i64 0, .int .i64 0, .int .i64 0, .string ⟨#[]⟩, .bool false] 24)) w.heap.size #[.int .i64 0, .int .i64 0, .int .i64 0, .string ⟨#[]⟩, .bool false] 24 := Blk.new _ _ _
  clear hV hx hcell hx0 hne hs0
  go_enter Tryz.func43, Tryz.ntmps43
  go_wp2_with fail
  generalize w.alloc (.cells #[.int .i64 0, .int .i64 0, .int .i64 0, .string ⟨#[]⟩, .bool false] 24) = W at *
  with_reducible refine (CN.out x0 W).mono ?_
  rintro e w1 ⟨rfl, hb1⟩
  have hw1 := hw0.trans (hb1.mono hw0.size)
  replace B2 := B2.below hb1 B2.lt
  have s1 := hw1.size
  have KW : w.heap.size < w1.heap.size := B2.lt
  have D3 : Blk (w1.alloc (.cells #[.int .i64 1, .int .i64 x0, .int .i64 0, .string ⟨#[]⟩, .bool false] 24)) w1.heap.size #[.int .i64 1, .int .i64 x0, .int .i64 0, .string ⟨#[]⟩, .bool false] 24 := Blk.new _ _ _
  replace B2 := B2.alloc (.cells #[.int .i64 1, .int .i64 x0, .int .i64 0, .string ⟨#[]⟩, .bool false] 24)
  have hw2 := hw1.alloc s1 (.cells #[.int .i64 1, .int .i64 x0, .int .i64 0, .string ⟨#[]⟩, .bool false] 24)
  clear hb1 hw0 hw1 v0 v1 v2 v3 v4
  go_wp2_with fail
  generalize w1.alloc (.cells #[.int .i64 1, .int .i64 x0, .int .i64 0, .string ⟨#[]⟩, .bool false] 24) = W2 at *
  have hz0 : (ns.length - 1 : Nat) + 1 = ns.length := by omega
  go_loopg [13] ns.length (fun m ii wr => ∃ j : Nat, j + 1 ≤ ns.length ∧ m + j = ns.length ∧ ii = .int .i64 (j : Int) ∧ Blk wr w1.heap.size #[.int .i64 1, .int .i64 (ns.take (j + 1)).sum, .int .i64 0, .string ⟨#[]⟩, .bool false] 24 ∧ Blk wr w.heap.size #[.int .i64 0, .int .i64 0, .int .i64 0, .string ⟨#[]⟩, .bool false] 24 ∧ Below w.heap.size w wr)
  case atStart => exact ⟨0, by omega, by omega, rfl, by rw [HS0.out]; exact D3, B2, hw2⟩
  case round =>
    clear D3 B2 hw2
    obtain ⟨j, hj, hmj, rfl, D3, B2, hw2⟩ := hrel
    have hj0 : (0 : Int) ≤ (j : Int) := Int.natCast_nonneg _
    by_cases hlt : j + 1 < ns.length
    · have i0 : decide ((j : Int) < ((ns.length - 1 : Nat) : Int)) = true := by simp; omega
      have i6 : (j : Int) < ((ns.length - 1 : Nat) : Int) := by omega
      obtain ⟨xv, hjx⟩ : ∃ xv, ns[j + 1]? = some xv := ⟨_, List.getElem?_eq_getElem hlt⟩
      obtain ⟨v0, v1, v2, v3, v4⟩ := HX.out.2 (j + 1) xv hjx
      rw [show o + (j + 1) * 5 = o + 5 + j * 5 by omega] at v0 v1 v2 v3 v4
      replace v0 := (hw2.cell (p := ⟨b, o + 5 + j * 5, none⟩) hb).trans v0
      replace v1 := (hw2.cell (p := ⟨b, o + 5 + j * 5 + 1, none⟩) hb).trans v1
      replace v2 := (hw2.cell (p := ⟨b, o + 5 + j * 5 + 2, none⟩) hb).trans v2
      replace v3 := (hw2.cell (p := ⟨b, o + 5 + j * 5 + 3, none⟩) hb).trans v3
      replace v4 := (hw2.cell (p := ⟨b, o + 5 + j * 5 + 4, none⟩) hb).trans v4
      have lb := Nat.lt_of_lt_of_le hb hw2.size
      have hts : (ns.take (j + 1 + 1)).sum = (ns.take (j + 1)).sum + xv := by
        rw [List.take_add_one, hjx, List.sum_append]
        simp
      have hsb := sum_take_bd ns HX.out.1 hl (j + 1)
      have hsc := sum_take_bd ns HX.out.1 hl (j + 1 + 1)
      have hxb := HX.out.1 xv (List.mem_of_getElem? hjx)
      rw [hts] at hsc
      have HTS := Lib.hid hts
      have CRx := Lib.hid (CR.out (ns.take (j + 1)).sum xv (by omega) (by omega) (by omega))
      clear hjx hts hsb hsc hxb
      generalize (ns.take (j + 1)).sum = S at *
      have D5 : Blk (wr.alloc (.cells #[.int .i64 1, .int .i64 xv, .int .i64 0, .string ⟨#[]⟩, .bool false] 24)) wr.heap.size #[.int .i64 1, .int .i64 xv, .int .i64 0, .string ⟨#[]⟩, .bool false] 24 := Blk.new _ _ _
      replace D3 := D3.alloc (.cells #[.int .i64 1, .int .i64 xv, .int .i64 0, .string ⟨#[]⟩, .bool false] 24)
      replace B2 := B2.alloc (.cells #[.int .i64 1, .int .i64 xv, .int .i64 0, .string ⟨#[]⟩, .bool false] 24)
      replace hw2 := hw2.alloc hw2.size (.cells #[.int .i64 1, .int .i64 xv, .int .i64 0, .string ⟨#[]⟩, .bool false] 24)
      go_wp2_with fail
      clear v0 v1 v2 v3 v4 lb
      generalize wr.alloc (.cells #[.int .i64 1, .int .i64 xv, .int .i64 0, .string ⟨#[]⟩, .bool false] 24) = W5 at *
      obtain ⟨⟨y0, y1, y2, y3, y4⟩, -⟩ := D3.five
      obtain ⟨⟨u0, u1, u2, u3, u4⟩, -⟩ := D5.five
      have k3 := D3.lt
      have k5 := D5.lt
      refine RC.region_steps (R := RG) 7 [some 17, some 18, some 19, some 20, some 21, some 22, some 23] (fun _ _ => True) (fun a b c h1 h2 => h1.trans (h2.mono h1.size)) (fun w => below_drewN (Below.refl _ w) 1) (fun _ => trivial) (by kernel_rfl) (by kernel_rfl) ?_
      -- 0: Op.load 24 (Operand.tmp 3)
      apply RC.ls_val (fun _ _ _ _ _ _ => trivial)
      · intro x w' hb hpre K hK
        have z00 := (hb.cell (p := ⟨w1.heap.size, 0, none⟩) k3).trans y0
        have z10 := (hb.cell (p := ⟨wr.heap.size, 0, none⟩) k5).trans u0
        have z01 := (hb.cell (p := ⟨w1.heap.size, 1, none⟩) k3).trans y1
        have z11 := (hb.cell (p := ⟨wr.heap.size, 1, none⟩) k5).trans u1
        have z02 := (hb.cell (p := ⟨w1.heap.size, 2, none⟩) k3).trans y2
        have z12 := (hb.cell (p := ⟨wr.heap.size, 2, none⟩) k5).trans u2
        have z03 := (hb.cell (p := ⟨w1.heap.size, 3, none⟩) k3).trans y3
        have z13 := (hb.cell (p := ⟨wr.heap.size, 3, none⟩) k5).trans u3
        have z04 := (hb.cell (p := ⟨w1.heap.size, 4, none⟩) k3).trans y4
        have z14 := (hb.cell (p := ⟨wr.heap.size, 4, none⟩) k5).trans u4
        have zs := hb.size
        clear hpre
        simp only [frL, Act.put, List.setIfInBounds_toArray, List.set_cons_zero, List.set_cons_succ, Nat.zero_add, Nat.reduceAdd] at hK ⊢
        have HK := Lib.hid hK
        clear hK
        refine Held.mk ?_
        go_simp
        exact HK.out _ (Below.refl _ _)
      -- 1: Op.load 24 (Operand.tmp 5)
      apply RC.ls_val (fun _ _ _ _ _ _ => trivial)
      · intro x w' hb hpre K hK
        have z00 := (hb.cell (p := ⟨w1.heap.size, 0, none⟩) k3).trans y0
        have z10 := (hb.cell (p := ⟨wr.heap.size, 0, none⟩) k5).trans u0
        have z01 := (hb.cell (p := ⟨w1.heap.size, 1, none⟩) k3).trans y1
        have z11 := (hb.cell (p := ⟨wr.heap.size, 1, none⟩) k5).trans u1
        have z02 := (hb.cell (p := ⟨w1.heap.size, 2, none⟩) k3).trans y2
        have z12 := (hb.cell (p := ⟨wr.heap.size, 2, none⟩) k5).trans u2
        have z03 := (hb.cell (p := ⟨w1.heap.size, 3, none⟩) k3).trans y3
        have z13 := (hb.cell (p := ⟨wr.heap.size, 3, none⟩) k5).trans u3
        have z04 := (hb.cell (p := ⟨w1.heap.size, 4, none⟩) k3).trans y4
        have z14 := (hb.cell (p := ⟨wr.heap.size, 4, none⟩) k5).trans u4
        have zs := hb.size
        clear hpre
        simp only [frL, Act.put, List.setIfInBounds_toArray, List.set_cons_zero, List.set_cons_succ, Nat.zero_add, Nat.reduceAdd] at hK ⊢
        have HK := Lib.hid hK
        clear hK
        refine Held.mk ?_
        go_simp
        exact HK.out _ (Below.refl _ _)
      -- 2: Op.call { callee := Callee.value (Operand.func 84), args := #[Operand.tmp 18], a
      apply RC.ls_val (fun _ _ _ _ _ _ => trivial)
      · intro x w' hb hpre K hK
        have z00 := (hb.cell (p := ⟨w1.heap.size, 0, none⟩) k3).trans y0
        have z10 := (hb.cell (p := ⟨wr.heap.size, 0, none⟩) k5).trans u0
        have z01 := (hb.cell (p := ⟨w1.heap.size, 1, none⟩) k3).trans y1
        have z11 := (hb.cell (p := ⟨wr.heap.size, 1, none⟩) k5).trans u1
        have z02 := (hb.cell (p := ⟨w1.heap.size, 2, none⟩) k3).trans y2
        have z12 := (hb.cell (p := ⟨wr.heap.size, 2, none⟩) k5).trans u2
        have z03 := (hb.cell (p := ⟨w1.heap.size, 3, none⟩) k3).trans y3
        have z13 := (hb.cell (p := ⟨wr.heap.size, 3, none⟩) k5).trans u3
        have z04 := (hb.cell (p := ⟨w1.heap.size, 4, none⟩) k3).trans y4
        have z14 := (hb.cell (p := ⟨wr.heap.size, 4, none⟩) k5).trans u4
        have zs := hb.size
        simp [preds, Region.binds, RC.phi, RC.MP.val] at hpre
        simp only [frL, Act.put, List.setIfInBounds_toArray, List.set_cons_zero, List.set_cons_succ, Nat.zero_add, Nat.reduceAdd, hpre] at hK ⊢
        have HK := Lib.hid hK
        clear hK
        refine Held.mk ?_
        go_simp
        (with_reducible refine (CN.out _ _).mono ?_)
        rintro e w1 ⟨rfl, hb1⟩
        dsimp only
        exact HK.out _ hb1
      -- 3: Op.call { callee := Callee.value (Operand.func 42), args := #[Operand.const (Val
      apply RC.ls_val (fun _ _ _ _ _ _ => trivial)
      · intro x w' hb hpre K hK
        have z00 := (hb.cell (p := ⟨w1.heap.size, 0, none⟩) k3).trans y0
        have z10 := (hb.cell (p := ⟨wr.heap.size, 0, none⟩) k5).trans u0
        have z01 := (hb.cell (p := ⟨w1.heap.size, 1, none⟩) k3).trans y1
        have z11 := (hb.cell (p := ⟨wr.heap.size, 1, none⟩) k5).trans u1
        have z02 := (hb.cell (p := ⟨w1.heap.size, 2, none⟩) k3).trans y2
        have z12 := (hb.cell (p := ⟨wr.heap.size, 2, none⟩) k5).trans u2
        have z03 := (hb.cell (p := ⟨w1.heap.size, 3, none⟩) k3).trans y3
        have z13 := (hb.cell (p := ⟨wr.heap.size, 3, none⟩) k5).trans u3
        have z04 := (hb.cell (p := ⟨w1.heap.size, 4, none⟩) k3).trans y4
        have z14 := (hb.cell (p := ⟨wr.heap.size, 4, none⟩) k5).trans u4
        have zs := hb.size
        simp [preds, Region.binds, RC.phi, RC.MP.val] at hpre
        simp only [frL, Act.put, List.setIfInBounds_toArray, List.set_cons_zero, List.set_cons_succ, Nat.zero_add, Nat.reduceAdd, hpre] at hK ⊢
        have HK := Lib.hid hK
        clear hK
        refine Held.mk ?_
        go_simp
        (with_reducible refine (CRx.out _).mono ?_)
        rintro e w1 ⟨rfl, hb1⟩
        dsimp only
        exact HK.out _ hb1
      -- 4: Op.extract (Operand.tmp 20) 0
      apply RC.ls_val (fun _ _ _ _ _ _ => trivial)
      · intro x w' hb hpre K hK
        have z00 := (hb.cell (p := ⟨w1.heap.size, 0, none⟩) k3).trans y0
        have z10 := (hb.cell (p := ⟨wr.heap.size, 0, none⟩) k5).trans u0
        have z01 := (hb.cell (p := ⟨w1.heap.size, 1, none⟩) k3).trans y1
        have z11 := (hb.cell (p := ⟨wr.heap.size, 1, none⟩) k5).trans u1
        have z02 := (hb.cell (p := ⟨w1.heap.size, 2, none⟩) k3).trans y2
        have z12 := (hb.cell (p := ⟨wr.heap.size, 2, none⟩) k5).trans u2
        have z03 := (hb.cell (p := ⟨w1.heap.size, 3, none⟩) k3).trans y3
        have z13 := (hb.cell (p := ⟨wr.heap.size, 3, none⟩) k5).trans u3
        have z04 := (hb.cell (p := ⟨w1.heap.size, 4, none⟩) k3).trans y4
        have z14 := (hb.cell (p := ⟨wr.heap.size, 4, none⟩) k5).trans u4
        have zs := hb.size
        simp [preds, Region.binds, RC.phi, RC.MP.val] at hpre
        simp only [frL, Act.put, List.setIfInBounds_toArray, List.set_cons_zero, List.set_cons_succ, Nat.zero_add, Nat.reduceAdd, hpre] at hK ⊢
        have HK := Lib.hid hK
        clear hK
        refine Held.mk ?_
        go_simp
        exact HK.out _ (Below.refl _ _)
      -- 5: Op.extract (Operand.tmp 20) 1
      apply RC.ls_val (fun _ _ _ _ _ _ => trivial)
      · intro x w' hb hpre K hK
        have z00 := (hb.cell (p := ⟨w1.heap.size, 0, none⟩) k3).trans y0
        have z10 := (hb.cell (p := ⟨wr.heap.size, 0, none⟩) k5).trans u0
        have z01 := (hb.cell (p := ⟨w1.heap.size, 1, none⟩) k3).trans y1
        have z11 := (hb.cell (p := ⟨wr.heap.size, 1, none⟩) k5).trans u1
        have z02 := (hb.cell (p := ⟨w1.heap.size, 2, none⟩) k3).trans y2
        have z12 := (hb.cell (p := ⟨wr.heap.size, 2, none⟩) k5).trans u2
        have z03 := (hb.cell (p := ⟨w1.heap.size, 3, none⟩) k3).trans y3
        have z13 := (hb.cell (p := ⟨wr.heap.size, 3, none⟩) k5).trans u3
        have z04 := (hb.cell (p := ⟨w1.heap.size, 4, none⟩) k3).trans y4
        have z14 := (hb.cell (p := ⟨wr.heap.size, 4, none⟩) k5).trans u4
        have zs := hb.size
        simp [preds, Region.binds, RC.phi, RC.MP.val] at hpre
        simp only [frL, Act.put, List.setIfInBounds_toArray, List.set_cons_zero, List.set_cons_succ, Nat.zero_add, Nat.reduceAdd, hpre] at hK ⊢
        have HK := Lib.hid hK
        clear hK
        refine Held.mk ?_
        go_simp
        exact HK.out _ (Below.refl _ _)
      -- 6: Op.call { callee := Callee.value (Operand.func 41), args := #[Operand.tmp 21, Op
      apply RC.ls_val (fun _ _ _ _ _ _ => trivial)
      · intro x w' hb hpre K hK
        have z00 := (hb.cell (p := ⟨w1.heap.size, 0, none⟩) k3).trans y0
        have z10 := (hb.cell (p := ⟨wr.heap.size, 0, none⟩) k5).trans u0
        have z01 := (hb.cell (p := ⟨w1.heap.size, 1, none⟩) k3).trans y1
        have z11 := (hb.cell (p := ⟨wr.heap.size, 1, none⟩) k5).trans u1
        have z02 := (hb.cell (p := ⟨w1.heap.size, 2, none⟩) k3).trans y2
        have z12 := (hb.cell (p := ⟨wr.heap.size, 2, none⟩) k5).trans u2
        have z03 := (hb.cell (p := ⟨w1.heap.size, 3, none⟩) k3).trans y3
        have z13 := (hb.cell (p := ⟨wr.heap.size, 3, none⟩) k5).trans u3
        have z04 := (hb.cell (p := ⟨w1.heap.size, 4, none⟩) k3).trans y4
        have z14 := (hb.cell (p := ⟨wr.heap.size, 4, none⟩) k5).trans u4
        have zs := hb.size
        simp [preds, Region.binds, RC.phi, RC.MP.val] at hpre
        simp only [frL, Act.put, List.setIfInBounds_toArray, List.set_cons_zero, List.set_cons_succ, Nat.zero_add, Nat.reduceAdd, hpre] at hK ⊢
        have HK := Lib.hid hK
        clear hK
        refine Held.mk ?_
        go_simp
        (with_reducible refine (CM.out _ _).mono ?_)
        rintro e w1 ⟨rfl, hb1⟩
        dsimp only
        exact HK.out _ hb1
      intro x w' hb hp hJ
      simp only [List.cons_append, List.nil_append, RC.phis, RC.MP.val, frL, Act.put, List.setIfInBounds_toArray, List.set_cons_zero, List.set_cons_succ, Nat.zero_add, Nat.reduceAdd] at hp ⊢
      obtain ⟨h0, h1, h2, h3, h4, h5, h6, -⟩ := hp
      simp only [h0, h1, h2, h3, h4, h5, h6]
      clear h0 h1 h2 h3 h4 h5 h6
      have hw6 := hw2.trans (hb.mono hw2.size)
      have D6 : Blk w' w1.heap.size #[.int .i64 1, .int .i64 S, .int .i64 0, .string ⟨#[]⟩, .bool false] 24 := D3.below hb D3.lt
      have B6 : Blk w' w.heap.size #[.int .i64 0, .int .i64 0, .int .i64 0, .string ⟨#[]⟩, .bool false] 24 := B2.below hb B2.lt
      have kw : w.heap.size < w1.heap.size := KW
      clear y0 y1 y2 y3 y4 u0 u1 u2 u3 u4 k3 k5 D3 D5 B2 hb hw2 CRx hJ
      obtain ⟨⟨y0, y1, y2, y3, y4⟩, ⟨f0, f1, f2, f3, f4⟩⟩ := D6.five
      have k3 := D6.lt
      have B7 : Blk (((((w'.setCell ⟨w1.heap.size, 0, none⟩ (.int .i64 1)).setCell ⟨w1.heap.size, 1, none⟩ (.int .i64 (S + xv))).setCell ⟨w1.heap.size, 2, none⟩ (.int .i64 0)).setCell ⟨w1.heap.size, 3, none⟩ (.string ⟨#[]⟩)).setCell ⟨w1.heap.size, 4, none⟩ (.bool false)) w1.heap.size #[.int .i64 1, .int .i64 (S + xv), .int .i64 0, .string ⟨#[]⟩, .bool false] 24 := ((((Blk.set D6 0 (.int .i64 1)).set 1 (.int .i64 (S + xv))).set 2 (.int .i64 0)).set 3 (.string ⟨#[]⟩)).set 4 (.bool false)
      have B8 : Blk (((((w'.setCell ⟨w1.heap.size, 0, none⟩ (.int .i64 1)).setCell ⟨w1.heap.size, 1, none⟩ (.int .i64 (S + xv))).setCell ⟨w1.heap.size, 2, none⟩ (.int .i64 0)).setCell ⟨w1.heap.size, 3, none⟩ (.string ⟨#[]⟩)).setCell ⟨w1.heap.size, 4, none⟩ (.bool false)) w.heap.size #[.int .i64 0, .int .i64 0, .int .i64 0, .string ⟨#[]⟩, .bool false] 24 := ((((Blk.other B6 (by simp; omega) _).other (by simp; omega) _).other (by simp; omega) _).other (by simp; omega) _).other (by simp; omega) _
      have hw8 : Below w.heap.size w (((((w'.setCell ⟨w1.heap.size, 0, none⟩ (.int .i64 1)).setCell ⟨w1.heap.size, 1, none⟩ (.int .i64 (S + xv))).setCell ⟨w1.heap.size, 2, none⟩ (.int .i64 0)).setCell ⟨w1.heap.size, 3, none⟩ (.string ⟨#[]⟩)).setCell ⟨w1.heap.size, 4, none⟩ (.bool false)) := ((((hw6.setCell (by simp; omega) _).setCell (by simp; omega) _).setCell (by simp; omega) _).setCell (by simp; omega) _).setCell (by simp; omega) _
      have HQ := Lib.hid (And.intro B7 (And.intro B8 hw8))
      clear B7 B8 hw8 D6 B6 hw6
      show wpList Tryz.prog _ _ [_] _ _
      go_wp2_with fail
      go_roundg (gk - 1)
      case measure => omega
      case rel => exact ⟨j + 1, by omega, by omega, by go_num, by rw [HTS.out]; exact HQ.out.1, HQ.out.2.1, HQ.out.2.2⟩
    · have i0 : decide ((j : Int) < ((ns.length - 1 : Nat) : Int)) = false := by simp; omega
      have hsum : (ns.take (j + 1)).sum = ns.sum := by rw [List.take_of_length_le (by omega)]
      rw [hsum] at D3
      obtain ⟨⟨y0, y1, y2, y3, y4⟩, -⟩ := D3.five
      obtain ⟨⟨a0, a1, a2, a3, a4⟩, ⟨f0, f1, f2, f3, f4⟩⟩ := B2.five
      have k2 := B2.lt
      have k3 := D3.lt
      have B7 := ((((Blk.set B2 0 (.int .i64 1)).set 1 (.int .i64 ns.sum)).set 2 (.int .i64 0)).set 3 (.string ⟨#[]⟩)).set 4 (.bool false)
      have hw8 : Below w.heap.size w (((((wr.setCell ⟨w.heap.size, 0, none⟩ (.int .i64 1)).setCell ⟨w.heap.size, 1, none⟩ (.int .i64 ns.sum)).setCell ⟨w.heap.size, 2, none⟩ (.int .i64 0)).setCell ⟨w.heap.size, 3, none⟩ (.string ⟨#[]⟩)).setCell ⟨w.heap.size, 4, none⟩ (.bool false)) := ((((hw2.setCell (Nat.le_refl _) _).setCell (Nat.le_refl _) _).setCell (Nat.le_refl _) _).setCell (Nat.le_refl _) _).setCell (Nat.le_refl _) _
      have q0 := B7.cell 0
      have q1 := B7.cell 1
      have q2 := B7.cell 2
      have q3 := B7.cell 3
      have q4 := B7.cell 4
      have HQ := Lib.hid (And.intro q0 (And.intro q1 (And.intro q2 (And.intro q3 (And.intro q4 hw8)))))
      clear q0 q1 q2 q3 q4 hw8 B7 B2 D3 hw2
      go_wp2_with fail
      obtain ⟨q0, q1, q2, q3, q4, hw8⟩ := HQ.out
      generalize (((((wr.setCell ⟨w.heap.size, 0, none⟩ (.int .i64 1)).setCell ⟨w.heap.size, 1, none⟩ (.int .i64 ns.sum)).setCell ⟨w.heap.size, 2, none⟩ (.int .i64 0)).setCell ⟨w.heap.size, 3, none⟩ (.string ⟨#[]⟩)).setCell ⟨w.heap.size, 4, none⟩ (.bool false)) = w8 at *
      simp at q0 q1 q2 q3 q4
      refine bodyPost_ret (v := .agg #[.int .i64 1, .int .i64 ns.sum, .int .i64 0, .string ⟨#[]⟩, .bool false]) ?_ rfl ⟨rfl, hw8⟩
      simp [results, Tryz.results43, go_sem, q0, q1, q2, q3, q4]
end Go.Proofs.YtfagfkfcokmclaaGreatDoor
end
section
set_option linter.unusedSimpArgs false
set_option linter.unusedVariables false
set_option linter.constructorNameAsVariable false
namespace Go.Proofs.YtfagfkfcokmclaaGreatDoor
open Go.RowKit Go.Sort

theorem total_any (ns : List Int) (h1 : 0 < ns.length) (hx : ∀ x ∈ ns, -1000000 ≤ x ∧ x ≤ 1000000) (hl : ns.length ≤ 1000000) (a : Option Addr) (c : Nat) (w : World) (hV : VRow w a (ns.map ofA)) (hc : ns.length ≤ c) :
    Calls Tryz.prog 43 #[.slice a ns.length c] w fun e w' => e = .returned (.agg #[.int .i64 1, .int .i64 ns.sum, .int .i64 0, .string ⟨#[]⟩, .bool false]) ∧ Below w.heap.size w w' := by
  by_cases h : ns.length = 1
  · exact total_one ns h hx hl a c w hV hc
  · exact total_more ns (by omega) hx hl a c w hV hc
set_option maxRecDepth 100000 in
set_option maxHeartbeats 800000 in
theorem csum_any (ns : List Int) (hx : ∀ x ∈ ns, -1000000 ≤ x ∧ x ≤ 1000000) (hl : ns.length ≤ 1000000) (ab ao cc : Nat) (w : World) (h : ArgR w ab ao 1 0 (ns.map ofA)) :
    Calls Tryz.prog 40 #[.agg #[.pointer none, .slice (some ⟨ab, ao, none⟩) 1 cc]] w fun e w' => ∃ v, e = .returned v ∧ OwnI w.heap.size w' v [ofA ns.sum] ∧ Below w.heap.size w w' := by
  have hb0 : Below w.heap.size w (w.alloc (.cells #[.pointer none, .slice (some ⟨ab, ao, none⟩) 1 cc] 51)) := (Below.refl _ _).alloc (Nat.le_refl _) _
  have B0 : Blk (w.alloc (.cells #[.pointer none, .slice (some ⟨ab, ao, none⟩) 1 cc] 51)) w.heap.size #[.pointer none, .slice (some ⟨ab, ao, none⟩) 1 cc] 51 := Blk.new _ _ _
  have C1 : Hid (Calls Tryz.prog 32 #[.agg #[.pointer none, .slice (some ⟨ab, ao, none⟩) 1 cc], .int .i64 0] (w.alloc (.cells #[.pointer none, .slice (some ⟨ab, ao, none⟩) 1 cc] 51)) fun e w' => ∃ a c, e = .returned (.slice a ns.length c) ∧ VRow w' a (ns.map ofA) ∧ ns.length ≤ c ∧ Below (w.alloc (.cells #[.pointer none, .slice (some ⟨ab, ao, none⟩) 1 cc] 51)).heap.size (w.alloc (.cells #[.pointer none, .slice (some ⟨ab, ao, none⟩) 1 cc] 51)) w') := by
    have := catoms_argR (ns.map ofA) ab ao 1 cc 0 _ (h.on hb0)
    rw [List.length_map] at this
    exact this
  clear h
  go_enter Tryz.func40, Tryz.ntmps40
  go_wp2_with fail
  generalize w.alloc (.cells #[.pointer none, .slice (some ⟨ab, ao, none⟩) 1 cc] 51) = W at *
  have kB := B0.lt
  with_reducible refine C1.out.mono ?_
  rintro e w1 ⟨a1, c1, rfl, hV, hc, hb1⟩
  replace B0 := B0.below hb1 kB
  have hw1 := hb0.trans (hb1.mono hb0.size)
  have c0 : w1.cell? ⟨w.heap.size, 0, none⟩ = some (.pointer none) := B0.cell 0
  have c1' : w1.cell? ⟨w.heap.size, 1, none⟩ = some (.slice (some ⟨ab, ao, none⟩) 1 cc) := B0.cell 1
  replace kB := B0.lt
  clear C1 B0 hb1 hb0
  by_cases h0 : ns.length = 0
  · have hn0 : ns = [] := List.length_eq_zero_iff.1 h0
    subst hn0
    have CW := Lib.hid (whole_row 0 w1)
    clear hV hc hx
    simp only [List.length_nil]
    go_wp2_with fail
    with_reducible refine CW.out.mono ?_
    rintro e w2 ⟨v, rfl, hO, hb⟩
    have hw2 := hw1.trans (hb.mono hw1.size)
    have HO := Lib.hid (OwnI.low hO hw1.size)
    clear hO hb CW
    go_wp2_with fail
    go_returns
    exact ⟨_, rfl, HO.out, hw2⟩
  · have CT := Lib.hid (total_any ns (by omega) hx hl a1 c1 w1 hV hc)
    have i0 : ((ns.length : Int) == 0) = false := beq_eq_false_iff_ne.2 (by omega)
    have i1 : ¬ (ns = []) := by intro h; exact h0 (by rw [h]; rfl)
    clear hV hc hx
    go_wp2_with fail
    with_reducible refine CT.out.mono ?_
    rintro e w2 ⟨rfl, hb⟩
    have hw2 := hw1.trans (hb.mono hw1.size)
    have CY := Lib.hid (lof_one 1 ns.sum 0 ⟨#[]⟩ false w2)
    clear hb CT c0 c1' kB
    go_wp2_with fail
    with_reducible refine CY.out.mono ?_
    rintro e w3 ⟨v, rfl, hO, hb⟩
    have hw3 := hw2.trans (hb.mono hw2.size)
    have HO := Lib.hid (OwnI.low hO hw2.size)
    clear hO hb CY
    go_wp2_with fail
    go_returns
    exact ⟨_, rfl, HO.out, hw3⟩
theorem call_sum (ns : List Int) (hx : ∀ x ∈ ns, -1000000 ≤ x ∧ x ≤ 1000000) (hl : ns.length ≤ 1000000) (ab cc : Nat) (w : World) (hS : Sp w) (h0 : ArgR w ab 0 1 0 (ns.map ofA)) :
    Calls Tryz.prog 9 #[.pointer none, .string ⟨#[115, 117, 109]⟩, .slice (some ⟨ab, 0, none⟩) 1 cc] w (Ans [ofA ns.sum] w) := by
  refine lcall_of _ _ 1 cc (some ⟨ab, 0, none⟩) rfl _ w (fun W hW => has_sum_1 W (hS.on hW)) (fun W hW => do_sum _ 1 cc (some ⟨ab, 0, none⟩) W (fun V hV => ?_)) ?_ (by show (1 : Nat) ≤ _; omega)
  · exact csum_any ns hx hl ab 0 cc V (h0.on (hW.trans (hV.mono hW.size)))
  · intro y hy
    simp only [List.mem_singleton] at hy
    subst hy
    show (0 : Nat) ≤ _
    omega
end Go.Proofs.YtfagfkfcokmclaaGreatDoor
end

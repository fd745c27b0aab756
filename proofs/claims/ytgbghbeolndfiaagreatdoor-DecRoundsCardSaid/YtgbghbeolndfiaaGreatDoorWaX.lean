/- The law DecRounds: its walk. -/
import Derived.Test.YtgbghbeolndfiaaGreatDoorWaO
import Derived.Test.YtgbghbeolndfiaaGreatDoorWaP
import Derived.Test.YtgbghbeolndfiaaGreatDoorLoC
import Derived.Test.YtgbghbeolndfiaaGreatDoorLoJ
set_option linter.unusedSimpArgs false
set_option linter.unusedVariables false
set_option maxRecDepth 20000
set_option linter.constructorNameAsVariable false
namespace Go.Proofs.YtgbghbeolndfiaaGreatDoor
open Go.RowKit

theorem res_one (p : Prop) [Decidable p] (w : World) : (if p then Result.ok (Next.value (.bool true)) w else Result.ok (Next.value (.bool false)) w) = Result.ok (Next.value (.bool (decide p))) w := by
  by_cases hp : p <;> simp [hp]
/-- What is there stays. -/
def GR (w w' : World) : Prop := Below w.heap.size w w'
theorem GR.trans : ∀ a b c, GR a b → GR b c → GR a c := fun a b c h1 h2 => Below.trans h1 (Below.mono h2 (Below.size h1))
theorem GR.drew (w : World) : GR w { w with drawn := w.drawn + 1 } := (Below.refl _ _).drew
/-- A box of the call's own, made in a region. -/
def MPnew (base : Nat) (cs : Array Value) (t : TypeId) : RC.MP GR :=
  ⟨fun v w => ∃ q, v = .pointer (some ⟨q, 0, none⟩) ∧ base ≤ q ∧ Blk w q cs t, fun _ _ _ ⟨q, h1, h2, h3⟩ hb => ⟨q, h1, h2, h3.below hb h3.lt⟩⟩
/-- Boxes made in a region are apart. -/
def JP (S : List Nat) (x : Nat → Value) (w : World) : Prop := ∀ i ∈ S, ∀ q, x i = .pointer (some ⟨q, 0, none⟩) → q < w.heap.size ∧ ∀ j ∈ S, j ≠ i → x j ≠ .pointer (some ⟨q, 0, none⟩)
theorem JP.step {S : List Nat} {i : Nat} (hi : i ∉ S) : ∀ x v w1 w2, JP S x w1 → GR w1 w2 → JP S (upd x i v) w2 := fun x v w1 w2 h hr j hj q hq => by
  have e : ∀ k ∈ S, upd x i v k = x k := fun k hk => by
    have : k ≠ i := fun e => hi (e ▸ hk)
    simp [upd, this]
  rw [e j hj] at hq
  obtain ⟨h1, h2⟩ := h j hj q hq
  refine ⟨Nat.lt_of_lt_of_le h1 (Below.size hr), fun k hk hkj => ?_⟩
  rw [e k hk]
  exact h2 k hk hkj
theorem JP.new {S : List Nat} {i : Nat} {x : Nat → Value} {w : World} (h : JP S x w) (hi : i ∈ S) (o : Obj) : JP S (upd x i (.pointer (some ⟨w.heap.size, 0, none⟩))) (w.alloc o) := fun j hj q hq => by
  by_cases e : j = i
  · subst e
    have : upd x j (.pointer (some ⟨w.heap.size, 0, none⟩)) j = .pointer (some ⟨w.heap.size, 0, none⟩) := by simp [upd]
    rw [this] at hq
    have hq := ptr_inj hq
    subst hq
    refine ⟨by simp, fun k hk hkj => ?_⟩
    have : upd x j (.pointer (some ⟨w.heap.size, 0, none⟩)) k = x k := by simp [upd, hkj]
    rw [this]
    intro hx
    have := (h k hk _ hx).1
    omega
  · have hj' : upd x i (.pointer (some ⟨w.heap.size, 0, none⟩)) j = x j := by simp [upd, e]
    rw [hj'] at hq
    obtain ⟨h1, h2⟩ := h j hj q hq
    refine ⟨by simp; omega, fun k hk hkj => ?_⟩
    by_cases ek : k = i
    · subst ek
      have : upd x k (.pointer (some ⟨w.heap.size, 0, none⟩)) k = .pointer (some ⟨w.heap.size, 0, none⟩) := by simp [upd]
      rw [this]
      intro hx
      have := ptr_inj hx
      omega
    · have : upd x i (.pointer (some ⟨w.heap.size, 0, none⟩)) k = x k := by simp [upd, ek]
      rw [this]
      exact h2 k hk hkj
/-- The sum's block before the store and behind it. -/
structure JS (S : Nat) (t : TypeId) (E F : Array Value) (x : Nat → Value) (w : World) : Prop where
  a : x 9 = undef → Blk w S E t
  b : x 9 = .bool true → Blk w S F t
theorem JS.same {S : Nat} {t : TypeId} {E F : Array Value} {x : Nat → Value} {w : World} (h : JS S t E F x w) {i : Nat} (hi : (i != 9) = true) (v : Value) : JS S t E F (upd x i v) w := by
  have e : upd x i v 9 = x 9 := by simp at hi; simp [upd]; omega
  exact ⟨fun h' => h.a (by rw [← e]; exact h'), fun h' => h.b (by rw [← e]; exact h')⟩
theorem JS.below {S : Nat} {t : TypeId} {E F : Array Value} {x : Nat → Value} {w w' : World} (h : JS S t E F x w) {i : Nat} (hi : (i != 9) = true) (v : Value) (hb : Below w.heap.size w w') : JS S t E F (upd x i v) w' := by
  have e : upd x i v 9 = x 9 := by simp at hi; simp [upd]; omega
  refine ⟨fun h' => ?_, fun h' => ?_⟩
  · have := h.a (by rw [← e]; exact h'); exact this.below hb this.lt
  · have := h.b (by rw [← e]; exact h'); exact this.below hb this.lt
theorem JS.put {S : Nat} {t : TypeId} {E F : Array Value} {x : Nat → Value} {w : World} (h : Blk w S F t) : JS S t E F (upd x 9 (.bool true)) w :=
  ⟨fun h' => by simp [upd, undef] at h', fun _ => h⟩
/-- What stays below a mark. -/
def BR (B : Nat) (w w' : World) : Prop := Below B w w'
theorem BR.trans {B : Nat} : ∀ a b c, BR B a b → BR B b c → BR B a c := fun _ _ _ h1 h2 => Below.trans h1 h2
theorem BR.drew {B : Nat} (w : World) : BR B w { w with drawn := w.drawn + 1 } := (Below.refl _ _).drew
theorem ARow.cells {w : World} {a : Option Addr} {c : Nat} {xs : List (Int × Int)} (h : ARow w a c xs) {j : Nat} {n s : Int} (hj : xs[j]? = some (n, s)) : ∃ b o, a = some ⟨b, o, none⟩ ∧ b < w.heap.size ∧ w.cell? ⟨b, o + j * 2, none⟩ = some (.int .i64 n) ∧ w.cell? ⟨b, o + j * 2 + 1, none⟩ = some (.int .i64 s) := by
  rcases h with ⟨rfl, -⟩ | ⟨b, o, rfl, hb, hc⟩
  · simp at hj
  · obtain ⟨y0, y1⟩ := hc j n s hj
    exact ⟨b, o, rfl, hb, y0, y1⟩
theorem ARow.below {w w' : World} {a : Option Addr} {c m : Nat} {xs : List (Int × Int)} (h : ARow w a c xs) (hb : Below m w w') (hm : w.heap.size ≤ m) : ARow w' a c xs := by
  rcases h with h | ⟨b, o, rfl, hl, hc⟩
  · exact .inl h
  · refine .inr ⟨b, o, rfl, Nat.lt_of_lt_of_le hl hb.size, fun j n s hj => ?_⟩
    obtain ⟨y0, y1⟩ := hc j n s hj
    exact ⟨by rw [hb.cell (p := ⟨b, o + j * 2, none⟩) (Nat.lt_of_lt_of_le hl hm)]; exact y0, by rw [hb.cell (p := ⟨b, o + j * 2 + 1, none⟩) (Nat.lt_of_lt_of_le hl hm)]; exact y1⟩
/-- How the running sum stands to the whole. -/
def SumSt (xs : List (Int × Int)) (j : Nat) (h u v : Int) : Prop := (h = 0 ∧ Rt u v ∧ sumG 0 0 xs = sumG u v (xs.drop j)) ∨ (h = 53 ∧ sumG 0 0 xs = (0, 0, 53))
set_option maxHeartbeats 8000000 in
theorem rounds_any (n s : Int) (a : Option Addr) (c : Nat) (xs : List (Int × Int)) (m : Int) (w : World) (hL : Laid m w) (hR : ARow w a c xs) (hl : xs.length ≤ 9223372036854775807) : Calls Tryz.prog 5 #[.agg #[.int .i64 n, .int .i64 s], .slice a xs.length c] w fun e w' => e = .returned (.bool true) ∧ Below w.heap.size w w' := by
  have CW := Lib.hid (fun w' (hb : Below w.heap.size w w') => awake_any m w' (hL.on hb))
  have RA := Lib.hid (fun w => law_right_any n s w)
  cases eA : rightF n s
  · rw [eA] at RA
    go_enter Tryz.func5, Tryz.ntmps5
    go_wp2_with (first
      | (go_at_call 9
         with_reducible refine (RA.out _).mono ?_
         rintro e w2 ⟨rfl, hb⟩
         have hw2 : Below w.heap.size w w2 := hw1.trans (hb.mono hw1.size)
         have Aw2 := Aw1.below hb Aw1.lt
         clear hb cA0 cA1 fA0 fA1 Aw1
         obtain ⟨cA0, cA1, fA0, fA1⟩ := Aw2.two
         have kAw2 : w.heap.size < w2.heap.size := Aw2.lt)
      | (go_at_call 8
         refine (CW.out _ hw2).mono ?_
         rintro e w9 ⟨rfl, hb⟩
         have hw9 : Below w.heap.size w w9 := hw2.trans (hb.mono hw2.size)
         clear hb)
      | (go_at_call 8
         refine (CW.out _ (by go_grown)).mono ?_
         rintro e w1 ⟨rfl, hb⟩
         have Aw1 : Blk w1 w.heap.size #[.int .i64 n, .int .i64 s] 23 := (Blk.here rfl rfl).below hb (by simp)
         have hw1 : Below w.heap.size w w1 := Below.trans (by go_grown) (hb.mono (by simp))
         obtain ⟨cA0, cA1, fA0, fA1⟩ := Aw1.two
         have kAw1 : w.heap.size < w1.heap.size := Aw1.lt
         clear hb))
    exact bodyPost_ret (v := .bool true) (by simp [results, Tryz.results5, go_sem]) rfl ⟨rfl, hw9⟩
  rw [eA] at RA
  have hA := (rightF_iff n s).1 eA
  obtain ⟨s', rfl⟩ := rt_nat hA
  cases eL : decide ((500 : Int) < (xs.length : Int))
  rotate_left
  · go_enter Tryz.func5, Tryz.ntmps5
    go_wp2_with (first
      | (go_at_call 9
         with_reducible refine (RA.out _).mono ?_
         rintro e w2 ⟨rfl, hb⟩
         have hw2 : Below w.heap.size w w2 := hw1.trans (hb.mono hw1.size)
         have Aw2 := Aw1.below hb Aw1.lt
         clear hb cA0 cA1 fA0 fA1 Aw1
         obtain ⟨cA0, cA1, fA0, fA1⟩ := Aw2.two
         have kAw2 : w.heap.size < w2.heap.size := Aw2.lt)
      | (go_at_call 8
         refine (CW.out _ hw2).mono ?_
         rintro e w9 ⟨rfl, hb⟩
         have hw9 : Below w.heap.size w w9 := hw2.trans (hb.mono hw2.size)
         clear hb)
      | (go_at_call 8
         refine (CW.out _ (by go_grown)).mono ?_
         rintro e w1 ⟨rfl, hb⟩
         have Aw1 : Blk w1 w.heap.size #[.int .i64 n, .int .i64 (s' : Int)] 23 := (Blk.here rfl rfl).below hb (by simp)
         have hw1 : Below w.heap.size w w1 := Below.trans (by go_grown) (hb.mono (by simp))
         obtain ⟨cA0, cA1, fA0, fA1⟩ := Aw1.two
         have kAw1 : w.heap.size < w1.heap.size := Aw1.lt
         clear hb))
    exact bodyPost_ret (v := .bool true) (by simp [results, Tryz.results5, go_sem]) rfl ⟨rfl, hw9⟩
  have hl5 : xs.length ≤ 500 := by simp at eL; omega
  obtain ⟨F, hF⟩ : ∃ F, F = floorF n s' := ⟨_, rfl⟩
  obtain ⟨C, hC⟩ : ∃ C, C = ceilF n s' := ⟨_, rfl⟩
  obtain ⟨G, hG⟩ : ∃ G, G = roundF n s' := ⟨_, rfl⟩
  have FL := Lib.hid (fun w => floor_any n s' hA w)
  have CE := Lib.hid (fun w => ceil_any n s' hA w)
  have RO := Lib.hid (fun w => round_any n s' hA w)
  obtain ⟨rF, rC⟩ := floor_Rt hA
  obtain ⟨i1, i2, i3, i4, i5⟩ := floor_cmp hA
  obtain ⟨u, v', px, py', l1, l2, l3, l4, l5⟩ := low_high hA
  obtain ⟨v, rfl⟩ := rt_nat l3
  obtain ⟨py, rfl⟩ := rt_nat l4
  rw [← hF] at FL rF i1 i3 i4 i5 l1 l5
  rw [← hC] at CE rC i2 i3 i4 i5 l2 l5
  rw [← hG] at RO l5
  have CF := Lib.hid (fun w => cmp_any F n 0 s' rF hA w)
  have CC := Lib.hid (fun w => cmp_any C n 0 s' rC hA w)
  have S1 := Lib.hid (fun w => sub_any n F s' 0 hA rF w)
  have S2 := Lib.hid (fun w => sub_any C n 0 s' rC hA w)
  have CL := Lib.hid (fun w => cmp_any u px v py l3 l4 w)
  simp only [Int.natCast_zero] at CF CC S1 S2
  rw [l1] at S1
  rw [l2] at S2
  have d3 : IntKind.i64.wrap (C - F) = C - F := IntWalk.i64_in _ (by omega)
  have d4 : decide (1 < C - F) = false := by simp; omega
  have d5 : decide (C < F) = false := by simp; omega
  have d1 : decide (0 < cmpF F 0 n s') = false := by simp; omega
  have d2 : decide (cmpF C 0 n s' < 0) = false := by simp; omega
  have HA := Lib.hid hA
  have HL5 := Lib.hid l5
  have HI5 := Lib.hid i5
  clear hA rF rC i1 i2 i3 i4 i5 l1 l2 l3 l4 l5 hF hC hG eA
  generalize cmpF F 0 n s' = c1 at *
  generalize cmpF C 0 n s' = c2 at *
  generalize cmpF u v px py = c3 at *
  go_enter Tryz.func5, Tryz.ntmps5
  go_wp2_with (first
    | (go_at_call 9
       with_reducible refine (RA.out _).mono ?_
       rintro e w2 ⟨rfl, hb⟩
       have hw2 : Below w.heap.size w w2 := hw1.trans (hb.mono hw1.size)
       have Aw2 := Aw1.below hb Aw1.lt
       clear hb cA0 cA1 fA0 fA1 Aw1
       obtain ⟨cA0, cA1, fA0, fA1⟩ := Aw2.two
       have kAw2 : w.heap.size < w2.heap.size := Aw2.lt)
    | (go_at_call 8
       refine (CW.out _ (by go_grown)).mono ?_
       rintro e w1 ⟨rfl, hb⟩
       have Aw1 : Blk w1 w.heap.size #[.int .i64 n, .int .i64 (s' : Int)] 23 := (Blk.here rfl rfl).below hb (by simp)
       have hw1 : Below w.heap.size w w1 := Below.trans (by go_grown) (hb.mono (by simp))
       obtain ⟨cA0, cA1, fA0, fA1⟩ := Aw1.two
       have kAw1 : w.heap.size < w1.heap.size := Aw1.lt
       clear hb))
  refine RC.region_steps (R := GR) 9 [some 31, some 32, some 33, some 34, some 35, some 36, some 5, some 6, some 7] (JP [6, 7, 8]) GR.trans GR.drew (fun w9 => fun i hi q hq => by simp at hi; rcases hi with rfl | rfl | rfl <;> simp [orig, undef] at hq) (by kernel_rfl) (by kernel_rfl) ?_
  -- 0: Op.load 23 (Operand.tmp 2)
  apply RC.ls_val (JP.step (by decide))
  · intro x w' hb hpre K hK
    have hc := (bcell hb).1
    clear hpre
    simp only [frL, Act.put, List.setIfInBounds_toArray, List.set_cons_zero, List.set_cons_succ, Nat.zero_add, Nat.reduceAdd] at hK ⊢
    have HK := Lib.hid hK
    clear hK
    refine Held.mk ?_
    go_simp
    exact HK.out _ (Below.refl _ _)
  -- 1: Op.call { callee := Callee.value (Operand.func 20), args := #[Operand.tmp 31], a
  apply RC.ls_val (JP.step (by decide))
  · intro x w' hb hpre K hK
    have hc := (bcell hb).1
    simp [preds, Region.binds, RC.phi, RC.MP.val] at hpre
    simp only [frL, Act.put, List.setIfInBounds_toArray, List.set_cons_zero, List.set_cons_succ, Nat.zero_add, Nat.reduceAdd, hpre] at hK ⊢
    have HK := Lib.hid hK
    clear hK
    refine Held.mk ?_
    go_simp
    (with_reducible refine (FL.out _).mono ?_)
    rintro e w1 ⟨rfl, hb1⟩
    dsimp only
    exact HK.out _ hb1
  -- 2: Op.load 23 (Operand.tmp 2)
  apply RC.ls_val (JP.step (by decide))
  · intro x w' hb hpre K hK
    have hc := (bcell hb).1
    clear hpre
    simp only [frL, Act.put, List.setIfInBounds_toArray, List.set_cons_zero, List.set_cons_succ, Nat.zero_add, Nat.reduceAdd] at hK ⊢
    have HK := Lib.hid hK
    clear hK
    refine Held.mk ?_
    go_simp
    exact HK.out _ (Below.refl _ _)
  -- 3: Op.call { callee := Callee.value (Operand.func 21), args := #[Operand.tmp 33], a
  apply RC.ls_val (JP.step (by decide))
  · intro x w' hb hpre K hK
    have hc := (bcell hb).1
    simp [preds, Region.binds, RC.phi, RC.MP.val] at hpre
    simp only [frL, Act.put, List.setIfInBounds_toArray, List.set_cons_zero, List.set_cons_succ, Nat.zero_add, Nat.reduceAdd, hpre] at hK ⊢
    have HK := Lib.hid hK
    clear hK
    refine Held.mk ?_
    go_simp
    (with_reducible refine (CE.out _).mono ?_)
    rintro e w1 ⟨rfl, hb1⟩
    dsimp only
    exact HK.out _ hb1
  -- 4: Op.load 23 (Operand.tmp 2)
  apply RC.ls_val (JP.step (by decide))
  · intro x w' hb hpre K hK
    have hc := (bcell hb).1
    clear hpre
    simp only [frL, Act.put, List.setIfInBounds_toArray, List.set_cons_zero, List.set_cons_succ, Nat.zero_add, Nat.reduceAdd] at hK ⊢
    have HK := Lib.hid hK
    clear hK
    refine Held.mk ?_
    go_simp
    exact HK.out _ (Below.refl _ _)
  -- 5: Op.call { callee := Callee.value (Operand.func 22), args := #[Operand.tmp 35], a
  apply RC.ls_val (JP.step (by decide))
  · intro x w' hb hpre K hK
    have hc := (bcell hb).1
    simp [preds, Region.binds, RC.phi, RC.MP.val] at hpre
    simp only [frL, Act.put, List.setIfInBounds_toArray, List.set_cons_zero, List.set_cons_succ, Nat.zero_add, Nat.reduceAdd, hpre] at hK ⊢
    have HK := Lib.hid hK
    clear hK
    refine Held.mk ?_
    go_simp
    (with_reducible refine (RO.out _).mono ?_)
    rintro e w1 ⟨rfl, hb1⟩
    dsimp only
    exact HK.out _ hb1
  -- 6: Op.alloc 23
  refine RC.ls_gen (MPnew w2.heap.size #[.int .i64 0, .int .i64 0] 23) ?_ ?_
  · intro x w' hb hj hpre K hK
    have hc := (bcell hb).1
    clear hpre
    simp only [frL, Act.put, List.setIfInBounds_toArray, List.set_cons_zero, List.set_cons_succ, Nat.zero_add, Nat.reduceAdd] at hK ⊢
    have HK := Lib.hid hK
    clear hK
    refine Held.mk ?_
    go_simp
    exact HK.out _ _ ⟨_, rfl, Below.size hb, Blk.new _ _ _⟩ (hj.new (by decide) _) ((Below.refl _ _).alloc (Nat.le_refl _) _)
  -- 7: Op.alloc 23
  refine RC.ls_gen (MPnew w2.heap.size #[.int .i64 0, .int .i64 0] 23) ?_ ?_
  · intro x w' hb hj hpre K hK
    have hc := (bcell hb).1
    clear hpre
    simp only [frL, Act.put, List.setIfInBounds_toArray, List.set_cons_zero, List.set_cons_succ, Nat.zero_add, Nat.reduceAdd] at hK ⊢
    have HK := Lib.hid hK
    clear hK
    refine Held.mk ?_
    go_simp
    exact HK.out _ _ ⟨_, rfl, Below.size hb, Blk.new _ _ _⟩ (hj.new (by decide) _) ((Below.refl _ _).alloc (Nat.le_refl _) _)
  -- 8: Op.alloc 23
  refine RC.ls_gen (MPnew w2.heap.size #[.int .i64 0, .int .i64 0] 23) ?_ ?_
  · intro x w' hb hj hpre K hK
    have hc := (bcell hb).1
    clear hpre
    simp only [frL, Act.put, List.setIfInBounds_toArray, List.set_cons_zero, List.set_cons_succ, Nat.zero_add, Nat.reduceAdd] at hK ⊢
    have HK := Lib.hid hK
    clear hK
    refine Held.mk ?_
    go_simp
    exact HK.out _ _ ⟨_, rfl, Below.size hb, Blk.new _ _ _⟩ (hj.new (by decide) _) ((Below.refl _ _).alloc (Nat.le_refl _) _)
  intro x w' hb hp hJ
  simp only [List.cons_append, List.nil_append, RC.phis, RC.MP.val, frL, Act.put, List.setIfInBounds_toArray, List.set_cons_zero, List.set_cons_succ, Nat.zero_add, Nat.reduceAdd] at hp ⊢
  obtain ⟨h0, h1, h2, h3, h4, h5, h6, h7, h8, -⟩ := hp
  simp only [h0, h1, h2, h3, h4, h5]
  clear h0 h1 h2 h3 h4 h5
  obtain ⟨q6, e6, hq6, B6⟩ : ∃ q, x 6 = .pointer (some ⟨q, 0, none⟩) ∧ w2.heap.size ≤ q ∧ Blk w' q #[.int .i64 0, .int .i64 0] 23 := h6
  obtain ⟨q7, e7, hq7, B7⟩ : ∃ q, x 7 = .pointer (some ⟨q, 0, none⟩) ∧ w2.heap.size ≤ q ∧ Blk w' q #[.int .i64 0, .int .i64 0] 23 := h7
  obtain ⟨q8, e8, hq8, B8⟩ : ∃ q, x 8 = .pointer (some ⟨q, 0, none⟩) ∧ w2.heap.size ≤ q ∧ Blk w' q #[.int .i64 0, .int .i64 0] 23 := h8
  have n67 : q6 ≠ q7 := fun e => (hJ 6 (by decide) q6 e6).2 7 (by decide) (by decide) (by rw [e7, e])
  have n68 : q6 ≠ q8 := fun e => (hJ 6 (by decide) q6 e6).2 8 (by decide) (by decide) (by rw [e8, e])
  have n78 : q7 ≠ q8 := fun e => (hJ 7 (by decide) q7 e7).2 8 (by decide) (by decide) (by rw [e8, e])
  simp only [e6, e7, e8]
  clear hJ e6 e7 e8
  have A' := Aw2.below hb kAw2
  have hw' : Below w.heap.size w w' := hw2.trans (Below.mono hb hw2.size)
  have z0 : w.heap.size < w2.heap.size := kAw2
  clear hb cA0 cA1 fA0 fA1 kAw2 Aw2 hw2
  have m6 : w.heap.size ≠ q6 := by omega
  have m7 : w.heap.size ≠ q7 := by omega
  have m8 : w.heap.size ≠ q8 := by omega
  obtain ⟨c60, c61, f60, f61⟩ := B6.two
  obtain ⟨c70, c71, f70, f71⟩ := B7.two
  obtain ⟨c80, c81, f80, f81⟩ := B8.two
  obtain ⟨cA0, cA1, fA0, fA1⟩ := A'.two
  have k6 : q6 < w'.heap.size := B6.lt
  have k7 : q7 < w'.heap.size := B7.lt
  have k8 : q8 < w'.heap.size := B8.lt
  have kA : w.heap.size < w'.heap.size := A'.lt
  go_upto_region 4 with fail
  refine wp_worldT ?_
  intro w3 hw3e
  have Aw3 : Blk w3 w.heap.size #[.int .i64 n, .int .i64 (s' : Int)] 23 := by rw [hw3e]; exact (((((A'.other m6 _).other m6 _).other m7 _).other m7 _).other m8 _).other m8 _
  have Fw3 : Blk w3 q6 #[.int .i64 F, .int .i64 0] 23 := by rw [hw3e]; exact (((((B6.set 0 _).set 1 _).other n67 _).other n67 _).other n68 _).other n68 _
  have Cw3 : Blk w3 q7 #[.int .i64 C, .int .i64 0] 23 := by rw [hw3e]; exact (((((B7.other n67.symm _).other n67.symm _).set 0 _).set 1 _).other n78 _).other n78 _
  have Gw3 : Blk w3 q8 #[.int .i64 G, .int .i64 0] 23 := by rw [hw3e]; exact (((((B8.other n68.symm _).other n68.symm _).other n78.symm _).other n78.symm _).set 0 _).set 1 _
  have hw3 : Below w.heap.size w w3 := by rw [hw3e]; exact (((((hw'.setCell (by simp; omega) _).setCell (by simp; omega) _).setCell (by simp; omega) _).setCell (by simp; omega) _).setCell (by simp; omega) _).setCell (by simp; omega) _
  clear hw3e hw' A' B6 B7 B8 c60 c61 f60 f61 c70 c71 f70 f71 c80 c81 f80 f81 cA0 cA1 fA0 fA1 k6 k7 k8 kA n67 n68 n78 hq6 hq7 hq8 m6 m7 m8 z0 w' x
  obtain ⟨cA0, cA1, fA0, fA1⟩ := Aw3.two
  obtain ⟨cF0, cF1, fF0, fF1⟩ := Fw3.two
  obtain ⟨cC0, cC1, fC0, fC1⟩ := Cw3.two
  obtain ⟨cG0, cG1, fG0, fG1⟩ := Gw3.two
  have kAw3 : w.heap.size < w3.heap.size := Aw3.lt
  have kFw3 : q6 < w3.heap.size := Fw3.lt
  have kCw3 : q7 < w3.heap.size := Cw3.lt
  have kGw3 : q8 < w3.heap.size := Gw3.lt
  have i5 := HI5.out
  have hE : (!(decide (C = F) == ((s' : Int) == 0))) = false := by rw [← i5]; by_cases e : C = F <;> simp [e]
  clear i5
  refine region_steps 49 [some 37, some 38, some 39, some 40, some 41, some 42, some 43, some 44, some 45, some 46, some 47, some 48, some 49, some 50, some 51, some 52, some 53, some 54, some 55, some 56, some 57, some 58, some 59, some 60, some 61, some 62, some 63, some 64, some 65, some 66, some 67, some 68, some 69, some 70, some 71, some 72, some 73, some 74, some 75, some 76, some 77, some 78, some 79, some 80, some 81, some 82, some 83, some 84, some 85] (by kernel_rfl) (by kernel_rfl) ?_
  -- 0: Op.fieldAddr 23 (Operand.tmp 5) 1
  apply ls_val
  · intro x w' hb hpre K hK
    have hc := (bcell hb).1
    clear hpre
    simp only [frL, Act.put, List.setIfInBounds_toArray, List.set_cons_zero, List.set_cons_succ, Nat.zero_add, Nat.reduceAdd] at hK ⊢
    have HK := Lib.hid hK
    clear hK
    refine Held.mk ?_
    go_simp
    exact HK.out _ (Below.refl _ _)
  -- 1: Op.load 3 (Operand.tmp 37)
  apply ls_val
  · intro x w' hb hpre K hK
    have hc := (bcell hb).1
    simp [preds, Region.binds, phi, MP.val, MP.box, MP.row] at hpre
    simp only [frL, Act.put, List.setIfInBounds_toArray, List.set_cons_zero, List.set_cons_succ, Nat.zero_add, Nat.reduceAdd, hpre] at hK ⊢
    have HK := Lib.hid hK
    clear hK
    refine Held.mk ?_
    go_simp
    exact HK.out _ (Below.refl _ _)
  -- 2: Op.binOp BinOp.neq 3 (Operand.tmp 38) (Operand.const (Value.int IntKind.i64 0)) 3
  apply ls_val
  · intro x w' hb hpre K hK
    have hc := (bcell hb).1
    simp [preds, Region.binds, phi, MP.val, MP.box, MP.row] at hpre
    simp only [frL, Act.put, List.setIfInBounds_toArray, List.set_cons_zero, List.set_cons_succ, Nat.zero_add, Nat.reduceAdd, hpre] at hK ⊢
    have HK := Lib.hid hK
    clear hK
    refine Held.mk ?_
    go_simp
    exact HK.out _ (Below.refl _ _)
  -- 3: Op.move (Operand.tmp 39)
  apply ls_val
  · intro x w' hb hpre K hK
    have hc := (bcell hb).1
    simp [preds, Region.binds, phi, MP.val, MP.box, MP.row] at hpre
    simp only [frL, Act.put, List.setIfInBounds_toArray, List.set_cons_zero, List.set_cons_succ, Nat.zero_add, Nat.reduceAdd, hpre] at hK ⊢
    have HK := Lib.hid hK
    clear hK
    refine Held.mk ?_
    go_simp
    exact HK.out _ (Below.refl _ _)
  -- 4: Op.fieldAddr 23 (Operand.tmp 6) 1
  apply ls_val
  · intro x w' hb hpre K hK
    have hc := (bcell hb).1
    simp [preds, Region.binds, phi, MP.val, MP.box, MP.row] at hpre
    simp only [frL, Act.put, List.setIfInBounds_toArray, List.set_cons_zero, List.set_cons_succ, Nat.zero_add, Nat.reduceAdd, hpre] at hK ⊢
    have HK := Lib.hid hK
    clear hK
    refine Held.mk ?_
    go_simp
    exact HK.out _ (Below.refl _ _)
  -- 5: Op.load 3 (Operand.tmp 41)
  apply ls_val
  · intro x w' hb hpre K hK
    have hc := (bcell hb).1
    simp [preds, Region.binds, phi, MP.val, MP.box, MP.row] at hpre
    simp only [frL, Act.put, List.setIfInBounds_toArray, List.set_cons_zero, List.set_cons_succ, Nat.zero_add, Nat.reduceAdd, hpre] at hK ⊢
    have HK := Lib.hid hK
    clear hK
    refine Held.mk ?_
    go_simp
    exact HK.out _ (Below.refl _ _)
  -- 6: Op.binOp BinOp.neq 3 (Operand.tmp 42) (Operand.const (Value.int IntKind.i64 0)) 3
  apply ls_val
  · intro x w' hb hpre K hK
    have hc := (bcell hb).1
    simp [preds, Region.binds, phi, MP.val, MP.box, MP.row] at hpre
    simp only [frL, Act.put, List.setIfInBounds_toArray, List.set_cons_zero, List.set_cons_succ, Nat.zero_add, Nat.reduceAdd, hpre] at hK ⊢
    have HK := Lib.hid hK
    clear hK
    refine Held.mk ?_
    go_simp
    exact HK.out _ (Below.refl _ _)
  -- 7: Op.pick (Operand.tmp 40) (Operand.const (Value.bool true)) (Operand.tmp 43)
  apply ls_val
  · intro x w' hb hpre K hK
    have hc := (bcell hb).1
    simp [preds, Region.binds, phi, MP.val, MP.box, MP.row] at hpre
    simp only [frL, Act.put, List.setIfInBounds_toArray, List.set_cons_zero, List.set_cons_succ, Nat.zero_add, Nat.reduceAdd, hpre] at hK ⊢
    have HK := Lib.hid hK
    clear hK
    refine Held.mk ?_
    go_simp
    exact HK.out _ (Below.refl _ _)
  -- 8: Op.move (Operand.tmp 44)
  apply ls_val
  · intro x w' hb hpre K hK
    have hc := (bcell hb).1
    simp [preds, Region.binds, phi, MP.val, MP.box, MP.row] at hpre
    simp only [frL, Act.put, List.setIfInBounds_toArray, List.set_cons_zero, List.set_cons_succ, Nat.zero_add, Nat.reduceAdd, hpre] at hK ⊢
    have HK := Lib.hid hK
    clear hK
    refine Held.mk ?_
    go_simp
    exact HK.out _ (Below.refl _ _)
  -- 9: Op.fieldAddr 23 (Operand.tmp 7) 1
  apply ls_val
  · intro x w' hb hpre K hK
    have hc := (bcell hb).1
    simp [preds, Region.binds, phi, MP.val, MP.box, MP.row] at hpre
    simp only [frL, Act.put, List.setIfInBounds_toArray, List.set_cons_zero, List.set_cons_succ, Nat.zero_add, Nat.reduceAdd, hpre] at hK ⊢
    have HK := Lib.hid hK
    clear hK
    refine Held.mk ?_
    go_simp
    exact HK.out _ (Below.refl _ _)
  -- 10: Op.load 3 (Operand.tmp 46)
  apply ls_val
  · intro x w' hb hpre K hK
    have hc := (bcell hb).1
    simp [preds, Region.binds, phi, MP.val, MP.box, MP.row] at hpre
    simp only [frL, Act.put, List.setIfInBounds_toArray, List.set_cons_zero, List.set_cons_succ, Nat.zero_add, Nat.reduceAdd, hpre] at hK ⊢
    have HK := Lib.hid hK
    clear hK
    refine Held.mk ?_
    go_simp
    exact HK.out _ (Below.refl _ _)
  -- 11: Op.binOp BinOp.neq 3 (Operand.tmp 47) (Operand.const (Value.int IntKind.i64 0)) 3
  apply ls_val
  · intro x w' hb hpre K hK
    have hc := (bcell hb).1
    simp [preds, Region.binds, phi, MP.val, MP.box, MP.row] at hpre
    simp only [frL, Act.put, List.setIfInBounds_toArray, List.set_cons_zero, List.set_cons_succ, Nat.zero_add, Nat.reduceAdd, hpre] at hK ⊢
    have HK := Lib.hid hK
    clear hK
    refine Held.mk ?_
    go_simp
    exact HK.out _ (Below.refl _ _)
  -- 12: Op.pick (Operand.tmp 45) (Operand.const (Value.bool true)) (Operand.tmp 48)
  apply ls_val
  · intro x w' hb hpre K hK
    have hc := (bcell hb).1
    simp [preds, Region.binds, phi, MP.val, MP.box, MP.row] at hpre
    simp only [frL, Act.put, List.setIfInBounds_toArray, List.set_cons_zero, List.set_cons_succ, Nat.zero_add, Nat.reduceAdd, hpre] at hK ⊢
    have HK := Lib.hid hK
    clear hK
    refine Held.mk ?_
    go_simp
    exact HK.out _ (Below.refl _ _)
  -- 13: Op.move (Operand.tmp 49)
  apply ls_val
  · intro x w' hb hpre K hK
    have hc := (bcell hb).1
    simp [preds, Region.binds, phi, MP.val, MP.box, MP.row] at hpre
    simp only [frL, Act.put, List.setIfInBounds_toArray, List.set_cons_zero, List.set_cons_succ, Nat.zero_add, Nat.reduceAdd, hpre] at hK ⊢
    have HK := Lib.hid hK
    clear hK
    refine Held.mk ?_
    go_simp
    exact HK.out _ (Below.refl _ _)
  -- 14: Op.load 23 (Operand.tmp 5)
  apply ls_val
  · intro x w' hb hpre K hK
    have hc := (bcell hb).1
    simp [preds, Region.binds, phi, MP.val, MP.box, MP.row] at hpre
    simp only [frL, Act.put, List.setIfInBounds_toArray, List.set_cons_zero, List.set_cons_succ, Nat.zero_add, Nat.reduceAdd, hpre] at hK ⊢
    have HK := Lib.hid hK
    clear hK
    refine Held.mk ?_
    go_simp
    exact HK.out _ (Below.refl _ _)
  -- 15: Op.load 23 (Operand.tmp 2)
  apply ls_val
  · intro x w' hb hpre K hK
    have hc := (bcell hb).1
    simp [preds, Region.binds, phi, MP.val, MP.box, MP.row] at hpre
    simp only [frL, Act.put, List.setIfInBounds_toArray, List.set_cons_zero, List.set_cons_succ, Nat.zero_add, Nat.reduceAdd, hpre] at hK ⊢
    have HK := Lib.hid hK
    clear hK
    refine Held.mk ?_
    go_simp
    exact HK.out _ (Below.refl _ _)
  -- 16: Op.call { callee := Callee.value (Operand.func 10), args := #[Operand.tmp 51, Operand.tmp 
  apply ls_val
  · intro x w' hb hpre K hK
    have hc := (bcell hb).1
    simp [preds, Region.binds, phi, MP.val, MP.box, MP.row] at hpre
    simp only [frL, Act.put, List.setIfInBounds_toArray, List.set_cons_zero, List.set_cons_succ, Nat.zero_add, Nat.reduceAdd, hpre] at hK ⊢
    have HK := Lib.hid hK
    clear hK
    refine Held.mk ?_
    go_simp
    (with_reducible refine (CF.out _).mono ?_)
    rintro e w1 ⟨rfl, hb1⟩
    dsimp only
    exact HK.out _ hb1
  -- 17: Op.binOp BinOp.gtr 3 (Operand.tmp 53) (Operand.const (Value.int IntKind.i64 0)) 3
  apply ls_val
  · intro x w' hb hpre K hK
    have hc := (bcell hb).1
    simp [preds, Region.binds, phi, MP.val, MP.box, MP.row] at hpre
    simp only [frL, Act.put, List.setIfInBounds_toArray, List.set_cons_zero, List.set_cons_succ, Nat.zero_add, Nat.reduceAdd, hpre] at hK ⊢
    have HK := Lib.hid hK
    clear hK
    refine Held.mk ?_
    go_simp
    exact HK.out _ (Below.refl _ _)
  -- 18: Op.pick (Operand.tmp 50) (Operand.const (Value.bool true)) (Operand.tmp 54)
  apply ls_val
  · intro x w' hb hpre K hK
    have hc := (bcell hb).1
    simp [preds, Region.binds, phi, MP.val, MP.box, MP.row] at hpre
    simp only [frL, Act.put, List.setIfInBounds_toArray, List.set_cons_zero, List.set_cons_succ, Nat.zero_add, Nat.reduceAdd, hpre] at hK ⊢
    have HK := Lib.hid hK
    clear hK
    refine Held.mk ?_
    go_simp
    exact HK.out _ (Below.refl _ _)
  -- 19: Op.move (Operand.tmp 55)
  apply ls_val
  · intro x w' hb hpre K hK
    have hc := (bcell hb).1
    simp [preds, Region.binds, phi, MP.val, MP.box, MP.row] at hpre
    simp only [frL, Act.put, List.setIfInBounds_toArray, List.set_cons_zero, List.set_cons_succ, Nat.zero_add, Nat.reduceAdd, hpre] at hK ⊢
    have HK := Lib.hid hK
    clear hK
    refine Held.mk ?_
    go_simp
    exact HK.out _ (Below.refl _ _)
  -- 20: Op.load 23 (Operand.tmp 6)
  apply ls_val
  · intro x w' hb hpre K hK
    have hc := (bcell hb).1
    simp [preds, Region.binds, phi, MP.val, MP.box, MP.row] at hpre
    simp only [frL, Act.put, List.setIfInBounds_toArray, List.set_cons_zero, List.set_cons_succ, Nat.zero_add, Nat.reduceAdd, hpre] at hK ⊢
    have HK := Lib.hid hK
    clear hK
    refine Held.mk ?_
    go_simp
    exact HK.out _ (Below.refl _ _)
  -- 21: Op.load 23 (Operand.tmp 2)
  apply ls_val
  · intro x w' hb hpre K hK
    have hc := (bcell hb).1
    simp [preds, Region.binds, phi, MP.val, MP.box, MP.row] at hpre
    simp only [frL, Act.put, List.setIfInBounds_toArray, List.set_cons_zero, List.set_cons_succ, Nat.zero_add, Nat.reduceAdd, hpre] at hK ⊢
    have HK := Lib.hid hK
    clear hK
    refine Held.mk ?_
    go_simp
    exact HK.out _ (Below.refl _ _)
  -- 22: Op.call { callee := Callee.value (Operand.func 10), args := #[Operand.tmp 57, Operand.tmp 
  apply ls_val
  · intro x w' hb hpre K hK
    have hc := (bcell hb).1
    simp [preds, Region.binds, phi, MP.val, MP.box, MP.row] at hpre
    simp only [frL, Act.put, List.setIfInBounds_toArray, List.set_cons_zero, List.set_cons_succ, Nat.zero_add, Nat.reduceAdd, hpre] at hK ⊢
    have HK := Lib.hid hK
    clear hK
    refine Held.mk ?_
    go_simp
    (with_reducible refine (CC.out _).mono ?_)
    rintro e w1 ⟨rfl, hb1⟩
    dsimp only
    exact HK.out _ hb1
  -- 23: Op.binOp BinOp.lss 3 (Operand.tmp 59) (Operand.const (Value.int IntKind.i64 0)) 3
  apply ls_val
  · intro x w' hb hpre K hK
    have hc := (bcell hb).1
    simp [preds, Region.binds, phi, MP.val, MP.box, MP.row] at hpre
    simp only [frL, Act.put, List.setIfInBounds_toArray, List.set_cons_zero, List.set_cons_succ, Nat.zero_add, Nat.reduceAdd, hpre] at hK ⊢
    have HK := Lib.hid hK
    clear hK
    refine Held.mk ?_
    go_simp
    exact HK.out _ (Below.refl _ _)
  -- 24: Op.pick (Operand.tmp 56) (Operand.const (Value.bool true)) (Operand.tmp 60)
  apply ls_val
  · intro x w' hb hpre K hK
    have hc := (bcell hb).1
    simp [preds, Region.binds, phi, MP.val, MP.box, MP.row] at hpre
    simp only [frL, Act.put, List.setIfInBounds_toArray, List.set_cons_zero, List.set_cons_succ, Nat.zero_add, Nat.reduceAdd, hpre] at hK ⊢
    have HK := Lib.hid hK
    clear hK
    refine Held.mk ?_
    go_simp
    exact HK.out _ (Below.refl _ _)
  -- 25: Op.move (Operand.tmp 61)
  apply ls_val
  · intro x w' hb hpre K hK
    have hc := (bcell hb).1
    simp [preds, Region.binds, phi, MP.val, MP.box, MP.row] at hpre
    simp only [frL, Act.put, List.setIfInBounds_toArray, List.set_cons_zero, List.set_cons_succ, Nat.zero_add, Nat.reduceAdd, hpre] at hK ⊢
    have HK := Lib.hid hK
    clear hK
    refine Held.mk ?_
    go_simp
    exact HK.out _ (Below.refl _ _)
  -- 26: Op.fieldAddr 23 (Operand.tmp 6) 0
  apply ls_val
  · intro x w' hb hpre K hK
    have hc := (bcell hb).1
    simp [preds, Region.binds, phi, MP.val, MP.box, MP.row] at hpre
    simp only [frL, Act.put, List.setIfInBounds_toArray, List.set_cons_zero, List.set_cons_succ, Nat.zero_add, Nat.reduceAdd, hpre] at hK ⊢
    have HK := Lib.hid hK
    clear hK
    refine Held.mk ?_
    go_simp
    exact HK.out _ (Below.refl _ _)
  -- 27: Op.load 3 (Operand.tmp 63)
  apply ls_val
  · intro x w' hb hpre K hK
    have hc := (bcell hb).1
    simp [preds, Region.binds, phi, MP.val, MP.box, MP.row] at hpre
    simp only [frL, Act.put, List.setIfInBounds_toArray, List.set_cons_zero, List.set_cons_succ, Nat.zero_add, Nat.reduceAdd, hpre] at hK ⊢
    have HK := Lib.hid hK
    clear hK
    refine Held.mk ?_
    go_simp
    exact HK.out _ (Below.refl _ _)
  -- 28: Op.fieldAddr 23 (Operand.tmp 5) 0
  apply ls_val
  · intro x w' hb hpre K hK
    have hc := (bcell hb).1
    simp [preds, Region.binds, phi, MP.val, MP.box, MP.row] at hpre
    simp only [frL, Act.put, List.setIfInBounds_toArray, List.set_cons_zero, List.set_cons_succ, Nat.zero_add, Nat.reduceAdd, hpre] at hK ⊢
    have HK := Lib.hid hK
    clear hK
    refine Held.mk ?_
    go_simp
    exact HK.out _ (Below.refl _ _)
  -- 29: Op.load 3 (Operand.tmp 65)
  apply ls_val
  · intro x w' hb hpre K hK
    have hc := (bcell hb).1
    simp [preds, Region.binds, phi, MP.val, MP.box, MP.row] at hpre
    simp only [frL, Act.put, List.setIfInBounds_toArray, List.set_cons_zero, List.set_cons_succ, Nat.zero_add, Nat.reduceAdd, hpre] at hK ⊢
    have HK := Lib.hid hK
    clear hK
    refine Held.mk ?_
    go_simp
    exact HK.out _ (Below.refl _ _)
  -- 30: Op.binOp BinOp.sub 3 (Operand.tmp 64) (Operand.tmp 66) 3
  apply ls_val
  · intro x w' hb hpre K hK
    have hc := (bcell hb).1
    simp [preds, Region.binds, phi, MP.val, MP.box, MP.row] at hpre
    simp only [frL, Act.put, List.setIfInBounds_toArray, List.set_cons_zero, List.set_cons_succ, Nat.zero_add, Nat.reduceAdd, hpre] at hK ⊢
    have HK := Lib.hid hK
    clear hK
    refine Held.mk ?_
    go_simp
    exact HK.out _ (Below.refl _ _)
  -- 31: Op.binOp BinOp.gtr 3 (Operand.tmp 67) (Operand.const (Value.int IntKind.i64 1)) 3
  apply ls_val
  · intro x w' hb hpre K hK
    have hc := (bcell hb).1
    simp [preds, Region.binds, phi, MP.val, MP.box, MP.row] at hpre
    simp only [frL, Act.put, List.setIfInBounds_toArray, List.set_cons_zero, List.set_cons_succ, Nat.zero_add, Nat.reduceAdd, hpre] at hK ⊢
    have HK := Lib.hid hK
    clear hK
    refine Held.mk ?_
    go_simp
    exact HK.out _ (Below.refl _ _)
  -- 32: Op.pick (Operand.tmp 62) (Operand.const (Value.bool true)) (Operand.tmp 68)
  apply ls_val
  · intro x w' hb hpre K hK
    have hc := (bcell hb).1
    simp [preds, Region.binds, phi, MP.val, MP.box, MP.row] at hpre
    simp only [frL, Act.put, List.setIfInBounds_toArray, List.set_cons_zero, List.set_cons_succ, Nat.zero_add, Nat.reduceAdd, hpre] at hK ⊢
    have HK := Lib.hid hK
    clear hK
    refine Held.mk ?_
    go_simp
    exact HK.out _ (Below.refl _ _)
  -- 33: Op.move (Operand.tmp 69)
  apply ls_val
  · intro x w' hb hpre K hK
    have hc := (bcell hb).1
    simp [preds, Region.binds, phi, MP.val, MP.box, MP.row] at hpre
    simp only [frL, Act.put, List.setIfInBounds_toArray, List.set_cons_zero, List.set_cons_succ, Nat.zero_add, Nat.reduceAdd, hpre] at hK ⊢
    have HK := Lib.hid hK
    clear hK
    refine Held.mk ?_
    go_simp
    exact HK.out _ (Below.refl _ _)
  -- 34: Op.fieldAddr 23 (Operand.tmp 6) 0
  apply ls_val
  · intro x w' hb hpre K hK
    have hc := (bcell hb).1
    simp [preds, Region.binds, phi, MP.val, MP.box, MP.row] at hpre
    simp only [frL, Act.put, List.setIfInBounds_toArray, List.set_cons_zero, List.set_cons_succ, Nat.zero_add, Nat.reduceAdd, hpre] at hK ⊢
    have HK := Lib.hid hK
    clear hK
    refine Held.mk ?_
    go_simp
    exact HK.out _ (Below.refl _ _)
  -- 35: Op.load 3 (Operand.tmp 71)
  apply ls_val
  · intro x w' hb hpre K hK
    have hc := (bcell hb).1
    simp [preds, Region.binds, phi, MP.val, MP.box, MP.row] at hpre
    simp only [frL, Act.put, List.setIfInBounds_toArray, List.set_cons_zero, List.set_cons_succ, Nat.zero_add, Nat.reduceAdd, hpre] at hK ⊢
    have HK := Lib.hid hK
    clear hK
    refine Held.mk ?_
    go_simp
    exact HK.out _ (Below.refl _ _)
  -- 36: Op.fieldAddr 23 (Operand.tmp 5) 0
  apply ls_val
  · intro x w' hb hpre K hK
    have hc := (bcell hb).1
    simp [preds, Region.binds, phi, MP.val, MP.box, MP.row] at hpre
    simp only [frL, Act.put, List.setIfInBounds_toArray, List.set_cons_zero, List.set_cons_succ, Nat.zero_add, Nat.reduceAdd, hpre] at hK ⊢
    have HK := Lib.hid hK
    clear hK
    refine Held.mk ?_
    go_simp
    exact HK.out _ (Below.refl _ _)
  -- 37: Op.load 3 (Operand.tmp 73)
  apply ls_val
  · intro x w' hb hpre K hK
    have hc := (bcell hb).1
    simp [preds, Region.binds, phi, MP.val, MP.box, MP.row] at hpre
    simp only [frL, Act.put, List.setIfInBounds_toArray, List.set_cons_zero, List.set_cons_succ, Nat.zero_add, Nat.reduceAdd, hpre] at hK ⊢
    have HK := Lib.hid hK
    clear hK
    refine Held.mk ?_
    go_simp
    exact HK.out _ (Below.refl _ _)
  -- 38: Op.binOp BinOp.lss 3 (Operand.tmp 72) (Operand.tmp 74) 3
  apply ls_val
  · intro x w' hb hpre K hK
    have hc := (bcell hb).1
    simp [preds, Region.binds, phi, MP.val, MP.box, MP.row] at hpre
    simp only [frL, Act.put, List.setIfInBounds_toArray, List.set_cons_zero, List.set_cons_succ, Nat.zero_add, Nat.reduceAdd, hpre] at hK ⊢
    have HK := Lib.hid hK
    clear hK
    refine Held.mk ?_
    go_simp
    exact HK.out _ (Below.refl _ _)
  -- 39: Op.pick (Operand.tmp 70) (Operand.const (Value.bool true)) (Operand.tmp 75)
  apply ls_val
  · intro x w' hb hpre K hK
    have hc := (bcell hb).1
    simp [preds, Region.binds, phi, MP.val, MP.box, MP.row] at hpre
    simp only [frL, Act.put, List.setIfInBounds_toArray, List.set_cons_zero, List.set_cons_succ, Nat.zero_add, Nat.reduceAdd, hpre] at hK ⊢
    have HK := Lib.hid hK
    clear hK
    refine Held.mk ?_
    go_simp
    exact HK.out _ (Below.refl _ _)
  -- 40: Op.move (Operand.tmp 76)
  apply ls_val
  · intro x w' hb hpre K hK
    have hc := (bcell hb).1
    simp [preds, Region.binds, phi, MP.val, MP.box, MP.row] at hpre
    simp only [frL, Act.put, List.setIfInBounds_toArray, List.set_cons_zero, List.set_cons_succ, Nat.zero_add, Nat.reduceAdd, hpre] at hK ⊢
    have HK := Lib.hid hK
    clear hK
    refine Held.mk ?_
    go_simp
    exact HK.out _ (Below.refl _ _)
  -- 41: Op.load 23 (Operand.tmp 6)
  apply ls_val
  · intro x w' hb hpre K hK
    have hc := (bcell hb).1
    simp [preds, Region.binds, phi, MP.val, MP.box, MP.row] at hpre
    simp only [frL, Act.put, List.setIfInBounds_toArray, List.set_cons_zero, List.set_cons_succ, Nat.zero_add, Nat.reduceAdd, hpre] at hK ⊢
    have HK := Lib.hid hK
    clear hK
    refine Held.mk ?_
    go_simp
    exact HK.out _ (Below.refl _ _)
  -- 42: Op.load 23 (Operand.tmp 5)
  apply ls_val
  · intro x w' hb hpre K hK
    have hc := (bcell hb).1
    simp [preds, Region.binds, phi, MP.val, MP.box, MP.row] at hpre
    simp only [frL, Act.put, List.setIfInBounds_toArray, List.set_cons_zero, List.set_cons_succ, Nat.zero_add, Nat.reduceAdd, hpre] at hK ⊢
    have HK := Lib.hid hK
    clear hK
    refine Held.mk ?_
    go_simp
    exact HK.out _ (Below.refl _ _)
  -- 43: Op.binOp BinOp.eql 23 (Operand.tmp 78) (Operand.tmp 79) 23
  refine ls_val (v := .bool (decide (C = F))) ?_ ?_
  · intro x w' hb hpre K hK
    have hc := (bcell hb).1
    simp [preds, Region.binds, phi, MP.val, MP.box, MP.row] at hpre
    simp only [frL, Act.put, List.setIfInBounds_toArray, List.set_cons_zero, List.set_cons_succ, Nat.zero_add, Nat.reduceAdd, hpre] at hK ⊢
    have HK := Lib.hid hK
    clear hK
    refine Held.mk ?_
    go_simp
    rw [res_one]
    exact HK.out _ (Below.refl _ _)
  -- 44: Op.fieldAddr 23 (Operand.tmp 2) 1
  apply ls_val
  · intro x w' hb hpre K hK
    have hc := (bcell hb).1
    simp [preds, Region.binds, phi, MP.val, MP.box, MP.row] at hpre
    simp only [frL, Act.put, List.setIfInBounds_toArray, List.set_cons_zero, List.set_cons_succ, Nat.zero_add, Nat.reduceAdd, hpre] at hK ⊢
    have HK := Lib.hid hK
    clear hK
    refine Held.mk ?_
    go_simp
    exact HK.out _ (Below.refl _ _)
  -- 45: Op.load 3 (Operand.tmp 81)
  apply ls_val
  · intro x w' hb hpre K hK
    have hc := (bcell hb).1
    simp [preds, Region.binds, phi, MP.val, MP.box, MP.row] at hpre
    simp only [frL, Act.put, List.setIfInBounds_toArray, List.set_cons_zero, List.set_cons_succ, Nat.zero_add, Nat.reduceAdd, hpre] at hK ⊢
    have HK := Lib.hid hK
    clear hK
    refine Held.mk ?_
    go_simp
    exact HK.out _ (Below.refl _ _)
  -- 46: Op.binOp BinOp.eql 3 (Operand.tmp 82) (Operand.const (Value.int IntKind.i64 0)) 3
  apply ls_val
  · intro x w' hb hpre K hK
    have hc := (bcell hb).1
    simp [preds, Region.binds, phi, MP.val, MP.box, MP.row] at hpre
    simp only [frL, Act.put, List.setIfInBounds_toArray, List.set_cons_zero, List.set_cons_succ, Nat.zero_add, Nat.reduceAdd, hpre] at hK ⊢
    have HK := Lib.hid hK
    clear hK
    refine Held.mk ?_
    go_simp
    exact HK.out _ (Below.refl _ _)
  -- 47: Op.binOp BinOp.neq 4 (Operand.tmp 80) (Operand.tmp 83) 4
  refine ls_val (v := .bool false) ?_ ?_
  · intro x w' hb hpre K hK
    have hc := (bcell hb).1
    simp [preds, Region.binds, phi, MP.val, MP.box, MP.row] at hpre
    simp only [frL, Act.put, List.setIfInBounds_toArray, List.set_cons_zero, List.set_cons_succ, Nat.zero_add, Nat.reduceAdd, hpre] at hK ⊢
    have HK := Lib.hid hK
    clear hK
    refine Held.mk ?_
    go_simp
    exact HK.out _ (Below.refl _ _)
  -- 48: Op.pick (Operand.tmp 77) (Operand.const (Value.bool true)) (Operand.tmp 84)
  apply ls_val
  · intro x w' hb hpre K hK
    have hc := (bcell hb).1
    simp [preds, Region.binds, phi, MP.val, MP.box, MP.row] at hpre
    simp only [frL, Act.put, List.setIfInBounds_toArray, List.set_cons_zero, List.set_cons_succ, Nat.zero_add, Nat.reduceAdd, hpre] at hK ⊢
    have HK := Lib.hid hK
    clear hK
    refine Held.mk ?_
    go_simp
    exact HK.out _ (Below.refl _ _)
  intro x w' hb hp
  simp only [List.cons_append, List.nil_append, phis, MP.val, MP.box, MP.row, frL, Act.put, List.setIfInBounds_toArray, List.set_cons_zero, List.set_cons_succ, Nat.zero_add, Nat.reduceAdd] at hp ⊢
  obtain ⟨h0, h1, h2, h3, h4, h5, h6, h7, h8, h9, h10, h11, h12, h13, h14, h15, h16, h17, h18, h19, h20, h21, h22, h23, h24, h25, h26, h27, h28, h29, h30, h31, h32, h33, h34, h35, h36, h37, h38, h39, h40, h41, h42, h43, h44, h45, h46, h47, h48, -⟩ := hp
  simp only [h0, h1, h2, h3, h4, h5, h6, h7, h8, h9, h10, h11, h12, h13, h14, h15, h16, h17, h18, h19, h20, h21, h22, h23, h24, h25, h26, h27, h28, h29, h30, h31, h32, h33, h34, h35, h36, h37, h38, h39, h40, h41, h42, h43, h44, h45, h46, h47, h48]
  clear h0 h1 h2 h3 h4 h5 h6 h7 h8 h9 h10 h11 h12 h13 h14 h15 h16 h17 h18 h19 h20 h21 h22 h23 h24 h25 h26 h27 h28 h29 h30 h31 h32 h33 h34 h35 h36 h37 h38 h39 h40 h41 h42 h43 h44 h45 h46 h47 h48
  show wpList Tryz.prog _ _ [] _ _
  have hw' : Below w.heap.size w w' := hw3.trans (hb.mono hw3.size)
  have Aw' := Aw3.below hb kAw3
  have Fw' := Fw3.below hb kFw3
  have Cw' := Cw3.below hb kCw3
  have Gw' := Gw3.below hb kGw3
  clear hb cA0 cA1 fA0 fA1 cF0 cF1 fF0 fF1 cC0 cC1 fC0 fC1 cG0 cG1 fG0 fG1 kAw3 kFw3 kCw3 kGw3 Aw3 Fw3 Cw3 Gw3 hw3 hE CF CC d1 d2 d3 d4 d5 FL CE RO RA CW
  obtain ⟨cA0, cA1, fA0, fA1⟩ := Aw'.two
  obtain ⟨cF0, cF1, fF0, fF1⟩ := Fw'.two
  obtain ⟨cC0, cC1, fC0, fC1⟩ := Cw'.two
  obtain ⟨cG0, cG1, fG0, fG1⟩ := Gw'.two
  have kAw' : w.heap.size < w'.heap.size := Aw'.lt
  have kFw' : q6 < w'.heap.size := Fw'.lt
  have kCw' : q7 < w'.heap.size := Cw'.lt
  have kGw' : q8 < w'.heap.size := Gw'.lt
  go_wp2_with (first
    | (go_at_call 23
       with_reducible refine (S1.out _).mono ?_
       rintro e w4 ⟨rfl, hb⟩
       have hw4 : Below w.heap.size w w4 := hw'.trans (hb.mono hw'.size)
       have Aw4 := Aw'.below hb Aw'.lt
       have Fw4 := Fw'.below hb Fw'.lt
       have Cw4 := Cw'.below hb Cw'.lt
       have Gw4 := Gw'.below hb Gw'.lt
       clear hb cA0 cA1 fA0 fA1 cC0 cC1 fC0 fC1 cF0 cF1 fF0 fF1 cG0 cG1 fG0 fG1 Aw' Fw' Cw' Gw'
       obtain ⟨cA0, cA1, fA0, fA1⟩ := Aw4.two
       have kAw4 : w.heap.size < w4.heap.size := Aw4.lt
       obtain ⟨cF0, cF1, fF0, fF1⟩ := Fw4.two
       have kFw4 : q6 < w4.heap.size := Fw4.lt
       obtain ⟨cC0, cC1, fC0, fC1⟩ := Cw4.two
       have kCw4 : q7 < w4.heap.size := Cw4.lt
       obtain ⟨cG0, cG1, fG0, fG1⟩ := Gw4.two
       have kGw4 : q8 < w4.heap.size := Gw4.lt)
    | (go_at_call 23
       with_reducible refine (S2.out _).mono ?_
       rintro e w5 ⟨rfl, hb⟩
       have hw5 : Below w.heap.size w w5 := (hw4.alloc hw4.size _).trans (hb.mono (by have := hw4.size; simp; omega))
       have Fw5 := (Fw4.alloc _).below hb (by have := Fw4.lt; simp; omega)
       have Cw5 := (Cw4.alloc _).below hb (by have := Cw4.lt; simp; omega)
       have Gw5 := (Gw4.alloc _).below hb (by have := Gw4.lt; simp; omega)
       have Lw5 : Blk w5 w4.heap.size #[.int .i64 u, .int .i64 (v : Int)] 23 := (Blk.here rfl rfl).below hb (by simp)
       clear hb cA0 cA1 fA0 fA1 cC0 cC1 fC0 fC1 cF0 cF1 fF0 fF1 cG0 cG1 fG0 fG1 Aw4 Fw4 Cw4 Gw4
       obtain ⟨cF0, cF1, fF0, fF1⟩ := Fw5.two
       have kFw5 : q6 < w5.heap.size := Fw5.lt
       obtain ⟨cC0, cC1, fC0, fC1⟩ := Cw5.two
       have kCw5 : q7 < w5.heap.size := Cw5.lt
       obtain ⟨cG0, cG1, fG0, fG1⟩ := Gw5.two
       have kGw5 : q8 < w5.heap.size := Gw5.lt
       obtain ⟨cL0, cL1, fL0, fL1⟩ := Lw5.two
       have kLw5 : w4.heap.size < w5.heap.size := Lw5.lt))
  have HL5o := HL5.out
  clear HL5
  cases e3 : decide (0 ≤ c3)
  · rw [e3] at HL5o
    simp only [if_true, if_false, Bool.false_eq_true] at HL5o
    subst HL5o
    go_upto_region 15 with (first
      | (go_at_call 10
         with_reducible refine (CL.out _).mono ?_
         rintro e w6 ⟨rfl, hb⟩
         have hw6 : Below w.heap.size w w6 := ((hw5.alloc (by have := hw5.size; simp; try omega) _).alloc (by have := hw5.size; simp; try omega) _).trans (hb.mono (by have := hw5.size; simp; omega))
         have Fw6 := ((Fw5.alloc _).alloc _).below hb (by have := Fw5.lt; simp; omega)
         have Cw6 := ((Cw5.alloc _).alloc _).below hb (by have := Cw5.lt; simp; omega)
         have Gw6 := ((Gw5.alloc _).alloc _).below hb (by have := Gw5.lt; simp; omega)
         have Ww6 : Blk w6 (w5.heap.size + 1) #[.int .i64 G, .int .i64 0] 23 := (Blk.here rfl (by simp)).below hb (by simp)
         clear hb cC0 cC1 fC0 fC1 cF0 cF1 fF0 fF1 cG0 cG1 fG0 fG1 cL0 cL1 fL0 fL1 Fw5 Cw5 Gw5 Lw5
         obtain ⟨cF0, cF1, fF0, fF1⟩ := Fw6.two
         have kFw6 : q6 < w6.heap.size := Fw6.lt
         obtain ⟨cC0, cC1, fC0, fC1⟩ := Cw6.two
         have kCw6 : q7 < w6.heap.size := Cw6.lt
         obtain ⟨cG0, cG1, fG0, fG1⟩ := Gw6.two
         have kGw6 : q8 < w6.heap.size := Gw6.lt
         obtain ⟨cW0, cW1, fW0, fW1⟩ := Ww6.two
         have kWw6 : (w5.heap.size + 1) < w6.heap.size := Ww6.lt))
    refine wp_worldT ?_
    intro w8 hw8e
    have hw8 : Below w.heap.size w w8 := by
      rw [hw8e]
      exact hw6
    clear hw8e cF0 cF1 fF0 fF1 cC0 cC1 fC0 fC1 cG0 cG1 fG0 fG1 cW0 cW1 fW0 fW1 kFw6 kCw6 kGw6 kWw6 Fw6 Cw6 Gw6 Ww6 hw6 hw5 hw4 hw' CL S1 S2
    go_wp2_with fail
    go_loopg [14, 15] (xs.length) (fun m hv iv wr => ∃ (j : Nat) (h u1 : Int) (v1 : Nat), m + j = xs.length ∧ hv = .int .i64 h ∧ iv = .int .i64 (j : Int) ∧ Below w.heap.size w wr ∧ Blk wr w8.heap.size #[.int .i64 u1, .int .i64 (v1 : Int)] 23 ∧ (∀ p ∈ xs.take j, Rt p.1 p.2) ∧ SumSt xs j h u1 v1)
    case atStart =>
      refine ⟨0, 0, 0, 0, by omega, rfl, rfl, hw8.alloc hw8.size _, Blk.here rfl rfl, fun p hp => by simp at hp, .inl ⟨rfl, Rt.zero, by rfl⟩⟩
    case round =>
      obtain ⟨j, h, u1, v1, hmj, rfl, rfl, hw, E0, hall, hst⟩ := hrel
      have k8 : w8.heap.size < wr.heap.size := E0.lt
      obtain ⟨c00, c01, f00, f01⟩ := E0.two
      have HALL := Lib.hid hall
      have HST := Lib.hid hst
      clear hall hst
      have w8s := hw8.size
      by_cases hlt : j < xs.length
      · obtain ⟨⟨n1, t1⟩, hjx⟩ : ∃ x, xs[j]? = some x := ⟨xs[j], by simp [hlt]⟩
        obtain ⟨b, o, rfl, hb0, x0, x1⟩ := ARow.cells hR hjx
        have y0 := (hw.cell (p := ⟨b, o + j * 2, none⟩) hb0).trans x0
        have y1 := (hw.cell (p := ⟨b, o + j * 2 + 1, none⟩) hb0).trans x1
        have i0 : decide ((j : Int) < (xs.length : Int)) = true := by simp; omega
        have hj64 : IntKind.i64.wrap ((j : Int) + 1) = (j : Int) + 1 := IntWalk.i64_in _ (by omega)
        have RX := Lib.hid (fun w => law_right_any n1 t1 w)
        have HJX := Lib.hid hjx
        clear x0 x1 hjx
        cases eX : rightF n1 t1
        · rw [eX] at RX
          go_wp2_with (go_at_call 9; with_reducible refine (RX.out _).mono ?_; rintro e w9 ⟨rfl, hb⟩
                       have hw9 := hw.trans (hb.mono hw.size)
                       clear hb)
          exact bodyPost_ret (v := .bool true) (by simp [results, Tryz.results5, go_sem]) rfl ⟨rfl, hw9⟩
        · rw [eX] at RX
          have hX := (rightF_iff n1 t1).1 eX
          obtain ⟨t2, rfl⟩ := rt_nat hX
          have HX := Lib.hid hX
          have hall' : ∀ p ∈ xs.take (j + 1), Rt p.1 p.2 := by
            rw [List.take_add_one, HJX.out]
            intro p hp
            simp only [Option.toList_some, List.mem_append, List.mem_singleton] at hp
            rcases hp with hp | rfl
            · exact HALL.out p hp
            · exact hX
          have HALL' := Lib.hid hall'
          have hd : xs.drop j = (n1, (t2 : Int)) :: xs.drop (j + 1) := by
            have := HJX.out
            rw [List.getElem?_eq_getElem hlt] at this
            rw [List.drop_eq_getElem_cons hlt, Option.some.inj this]
          have HD := Lib.hid hd
          clear hX eX hall' hd
          rcases HST.out with ⟨rfl, hv, hs⟩ | ⟨rfl, hs⟩
          · have AD := Lib.hid (fun w => add_any u1 n1 v1 t2 hv HX.out w)
            obtain ⟨a1, a2', a3, hadd⟩ : ∃ a1 a2 a3, addF u1 v1 n1 t2 = (a1, a2, a3) := ⟨_, _, _, rfl⟩
            obtain ⟨a2, ha2, hnext⟩ : ∃ a2 : Nat, a2' = (a2 : Int) ∧ SumSt xs (j + 1) a3 a1 a2 := by
              rcases addF_cases hv HX.out with ha | ⟨x, y, ha, hxy, -⟩
              · rw [ha] at hadd
                cases hadd
                refine ⟨0, rfl, .inr ⟨rfl, ?_⟩⟩
                rw [hs, HD.out, sumG_err ha]
              · obtain ⟨y', rfl⟩ := rt_nat hxy
                rw [ha] at hadd
                cases hadd
                refine ⟨y', rfl, .inl ⟨rfl, hxy, ?_⟩⟩
                rw [hs, HD.out, sumG_ok ha]
            subst ha2
            rw [hadd] at AD
            have HN := Lib.hid hnext
            clear hnext hadd hs hv
            go_wp2_with (go_at_call 9; with_reducible refine (RX.out _).mono ?_; rintro e w9 ⟨rfl, hb⟩
                         have hw9 := hw.trans (hb.mono hw.size)
                         have z0 := (hb.cell (p := ⟨b, o + j * 2, none⟩) (Nat.lt_of_lt_of_le hb0 hw.size)).trans y0
                         have z1 := (hb.cell (p := ⟨b, o + j * 2 + 1, none⟩) (Nat.lt_of_lt_of_le hb0 hw.size)).trans y1
                         have E9 := E0.below hb E0.lt
                         clear hb c00 c01 f00 f01 y0 y1 E0 k8)
            refine RJ.region_steps (R := (BR w.heap.size)) 10 [some 129, some 130, some 131, some 132, some 133, some 134, some 128, some 135, some 136, none] (JS w8.heap.size 23 #[.int .i64 u1, .int .i64 (v1 : Int)] #[.int .i64 a1, .int .i64 (a2 : Int)]) BR.trans BR.drew ⟨fun _ => E9, fun h => by simp [orig, undef] at h⟩ (by kernel_rfl) (by kernel_rfl) ?_
            -- 0: Op.load 23 (Operand.tmp 13)
            refine RJ.ls_genO (RJ.MP.val (.agg #[.int .i64 u1, .int .i64 (v1 : Int)])) ?_ ?_
            · intro x w' hb hj hpre ho K hK
              have hS := hj.a (by rw [ho 9 (by omega) (.inr (by kernel_rfl))]; simp [orig])
              obtain ⟨d0, d1, d2, d3⟩ := hS.two
              clear ho
              have g0 := (Below.cell (p := ⟨b, o + j * 2, none⟩) hb hb0).trans z0
              have g1 := (Below.cell (p := ⟨b, o + j * 2 + 1, none⟩) hb hb0).trans z1
              clear hpre
              simp only [frL, Act.put, List.setIfInBounds_toArray, List.set_cons_zero, List.set_cons_succ, Nat.zero_add, Nat.reduceAdd] at hK ⊢
              have HK := Lib.hid hK
              clear hK
              refine Held.mk ?_
              go_simp
              exact HK.out _ _ rfl (hj.same (by decide) _) (Below.refl _ _)
            -- 1: Op.move (Operand.tmp 1)
            refine RJ.ls_gen (RJ.MP.val (.slice (some ⟨b, o, none⟩) xs.length c)) ?_ ?_
            · intro x w' hb hj hpre K hK
              have g0 := (Below.cell (p := ⟨b, o + j * 2, none⟩) hb hb0).trans z0
              have g1 := (Below.cell (p := ⟨b, o + j * 2 + 1, none⟩) hb hb0).trans z1
              clear hpre
              simp only [frL, Act.put, List.setIfInBounds_toArray, List.set_cons_zero, List.set_cons_succ, Nat.zero_add, Nat.reduceAdd] at hK ⊢
              have HK := Lib.hid hK
              clear hK
              refine Held.mk ?_
              go_simp
              exact HK.out _ _ rfl (hj.same (by decide) _) (Below.refl _ _)
            -- 2: Op.move (Operand.tmp 15)
            refine RJ.ls_gen (RJ.MP.val (.int .i64 (j : Int))) ?_ ?_
            · intro x w' hb hj hpre K hK
              have g0 := (Below.cell (p := ⟨b, o + j * 2, none⟩) hb hb0).trans z0
              have g1 := (Below.cell (p := ⟨b, o + j * 2 + 1, none⟩) hb hb0).trans z1
              clear hpre
              simp only [frL, Act.put, List.setIfInBounds_toArray, List.set_cons_zero, List.set_cons_succ, Nat.zero_add, Nat.reduceAdd] at hK ⊢
              have HK := Lib.hid hK
              clear hK
              refine Held.mk ?_
              go_simp
              exact HK.out _ _ rfl (hj.same (by decide) _) (Below.refl _ _)
            -- 3: Op.indexAddr 45 (Operand.tmp 130) (Operand.tmp 131)
            refine RJ.ls_gen (RJ.MP.val (.pointer (some ⟨b, o + j * 2, none⟩))) ?_ ?_
            · intro x w' hb hj hpre K hK
              have g0 := (Below.cell (p := ⟨b, o + j * 2, none⟩) hb hb0).trans z0
              have g1 := (Below.cell (p := ⟨b, o + j * 2 + 1, none⟩) hb hb0).trans z1
              simp [preds, Region.binds, RJ.phi, RJ.MP.val, RJ.MP.val] at hpre
              simp only [frL, Act.put, List.setIfInBounds_toArray, List.set_cons_zero, List.set_cons_succ, Nat.zero_add, Nat.reduceAdd, hpre] at hK ⊢
              have HK := Lib.hid hK
              clear hK
              refine Held.mk ?_
              go_simp
              exact HK.out _ _ rfl (hj.same (by decide) _) (Below.refl _ _)
            -- 4: Op.load 23 (Operand.tmp 132)
            refine RJ.ls_gen (RJ.MP.val (.agg #[.int .i64 n1, .int .i64 (t2 : Int)])) ?_ ?_
            · intro x w' hb hj hpre K hK
              have g0 := (Below.cell (p := ⟨b, o + j * 2, none⟩) hb hb0).trans z0
              have g1 := (Below.cell (p := ⟨b, o + j * 2 + 1, none⟩) hb hb0).trans z1
              simp [preds, Region.binds, RJ.phi, RJ.MP.val, RJ.MP.val] at hpre
              simp only [frL, Act.put, List.setIfInBounds_toArray, List.set_cons_zero, List.set_cons_succ, Nat.zero_add, Nat.reduceAdd, hpre] at hK ⊢
              have HK := Lib.hid hK
              clear hK
              refine Held.mk ?_
              go_simp
              exact HK.out _ _ rfl (hj.same (by decide) _) (Below.refl _ _)
            -- 5: Op.call { callee := Callee.value (Operand.func 11), args := #[Operand.tmp 129, O
            refine RJ.ls_gen (RJ.MP.val (.tuple #[.agg #[.int .i64 a1, .int .i64 (a2 : Int)], .int .i64 a3])) ?_ ?_
            · intro x w' hb hj hpre K hK
              simp [preds, Region.binds, RJ.phi, RJ.MP.val] at hpre
              simp only [frL, Act.put, List.setIfInBounds_toArray, List.set_cons_zero, List.set_cons_succ, Nat.zero_add, Nat.reduceAdd, hpre] at hK ⊢
              have HK := Lib.hid hK
              clear hK
              refine Held.mk ?_
              go_simp
              (with_reducible refine (AD.out _).mono ?_)
              rintro e w1 ⟨rfl, hb1⟩
              dsimp only
              exact HK.out _ _ rfl (hj.below (by decide) _ hb1) (Below.mono hb1 (Nat.le_trans hw9.size (Below.size hb)))
            -- 6: Op.move (Operand.tmp 134)
            refine RJ.ls_gen (RJ.MP.val (.tuple #[.agg #[.int .i64 a1, .int .i64 (a2 : Int)], .int .i64 a3])) ?_ ?_
            · intro x w' hb hj hpre K hK
              have g0 := (Below.cell (p := ⟨b, o + j * 2, none⟩) hb hb0).trans z0
              have g1 := (Below.cell (p := ⟨b, o + j * 2 + 1, none⟩) hb hb0).trans z1
              simp [preds, Region.binds, RJ.phi, RJ.MP.val, RJ.MP.val] at hpre
              simp only [frL, Act.put, List.setIfInBounds_toArray, List.set_cons_zero, List.set_cons_succ, Nat.zero_add, Nat.reduceAdd, hpre] at hK ⊢
              have HK := Lib.hid hK
              clear hK
              refine Held.mk ?_
              go_simp
              exact HK.out _ _ rfl (hj.same (by decide) _) (Below.refl _ _)
            -- 7: Op.extract (Operand.tmp 128) 0
            refine RJ.ls_gen (RJ.MP.val (.agg #[.int .i64 a1, .int .i64 (a2 : Int)])) ?_ ?_
            · intro x w' hb hj hpre K hK
              have g0 := (Below.cell (p := ⟨b, o + j * 2, none⟩) hb hb0).trans z0
              have g1 := (Below.cell (p := ⟨b, o + j * 2 + 1, none⟩) hb hb0).trans z1
              simp [preds, Region.binds, RJ.phi, RJ.MP.val, RJ.MP.val] at hpre
              simp only [frL, Act.put, List.setIfInBounds_toArray, List.set_cons_zero, List.set_cons_succ, Nat.zero_add, Nat.reduceAdd, hpre] at hK ⊢
              have HK := Lib.hid hK
              clear hK
              refine Held.mk ?_
              go_simp
              exact HK.out _ _ rfl (hj.same (by decide) _) (Below.refl _ _)
            -- 8: Op.extract (Operand.tmp 128) 1
            refine RJ.ls_gen (RJ.MP.val (.int .i64 a3)) ?_ ?_
            · intro x w' hb hj hpre K hK
              have g0 := (Below.cell (p := ⟨b, o + j * 2, none⟩) hb hb0).trans z0
              have g1 := (Below.cell (p := ⟨b, o + j * 2 + 1, none⟩) hb hb0).trans z1
              simp [preds, Region.binds, RJ.phi, RJ.MP.val, RJ.MP.val] at hpre
              simp only [frL, Act.put, List.setIfInBounds_toArray, List.set_cons_zero, List.set_cons_succ, Nat.zero_add, Nat.reduceAdd, hpre] at hK ⊢
              have HK := Lib.hid hK
              clear hK
              refine Held.mk ?_
              go_simp
              exact HK.out _ _ rfl (hj.same (by decide) _) (Below.refl _ _)
            -- 9: Op.store 23 (Operand.tmp 13) (Operand.tmp 135)
            refine RJ.ls_genO (RJ.MP.val (.bool true)) ?_ ?_
            · intro x w' hb hj hpre ho K hK
              have hS := hj.a (by rw [ho 9 (by omega) (.inl rfl)]; simp [orig])
              obtain ⟨d0, d1, d2, d3⟩ := hS.two
              have dk : w8.heap.size < w'.heap.size := hS.lt
              clear ho
              simp [preds, Region.binds, RJ.phi, RJ.MP.val] at hpre
              simp only [frL, Act.put, List.setIfInBounds_toArray, List.set_cons_zero, List.set_cons_succ, Nat.zero_add, Nat.reduceAdd, hpre] at hK ⊢
              have HK := Lib.hid hK
              clear hK
              refine Held.mk ?_
              go_simp
              exact HK.out (.bool true) _ rfl (JS.put ((hS.set 0 _).set 1 _)) (((Below.refl _ _).setCell (by simpa using w8s) _).setCell (by simpa using w8s) _)
            intro x w' hb hp hJ
            simp only [List.cons_append, List.nil_append, RJ.phis, RJ.MP.val, frL, Act.put, List.setIfInBounds_toArray, List.set_cons_zero, List.set_cons_succ, Nat.zero_add, Nat.reduceAdd] at hp ⊢
            obtain ⟨h0, h1, h2, h3, h4, h5, h6, h7, h8, h9, -⟩ := hp
            have hF : Blk w' w8.heap.size #[.int .i64 a1, .int .i64 (a2 : Int)] 23 := hJ.b h9
            simp only [h0, h1, h2, h3, h4, h5, h6, h7, h8]
            clear hJ h0 h1 h2 h3 h4 h5 h6 h7 h8 h9
            have hw1 : Below w.heap.size w w' := hw9.trans hb
            clear hb E9 hw9 z0 z1
            go_wp2_with fail
            go_roundg (gk - 1)
            case measure => omega
            case rel => exact ⟨j + 1, a3, a1, a2, by omega, rfl, by go_num, hw1, hF, HALL'.out, HN.out⟩
          · have hnext : SumSt xs (j + 1) 53 u1 v1 := .inr ⟨rfl, hs⟩
            have HN := Lib.hid hnext
            clear hnext hs
            go_wp2_with (go_at_call 9; with_reducible refine (RX.out _).mono ?_; rintro e w9 ⟨rfl, hb⟩
                         have hw9 := hw.trans (hb.mono hw.size)
                         have E9 := E0.below hb E0.lt
                         clear hb c00 c01 f00 f01 y0 y1 E0 k8)
            go_roundg (gk - 1)
            case measure => omega
            case rel => exact ⟨j + 1, 53, u1, v1, by omega, rfl, by go_num, hw9, E9, HALL'.out, HN.out⟩
      · have hjl : j = xs.length := by omega
        have i0 : decide ((j : Int) < (xs.length : Int)) = false := by simp; omega
        have hx : ∀ p ∈ xs, Rt p.1 p.2 := by
          have := HALL.out
          rw [hjl, List.take_of_length_le (Nat.le_refl _)] at this
          exact this
        have SU := Lib.hid (fun a' c' w' h => sum_any a' c' xs hx w' h (by omega))
        have HA' := Lib.hid (hR.below hw (Nat.le_refl _))
        have hfin : (h = 0 ∧ sumG 0 0 xs = (u1, (v1 : Int), 0)) ∨ (h = 53 ∧ sumG 0 0 xs = (0, 0, 53)) := by
          rcases HST.out with ⟨h1, -, h2⟩ | h1
          · rw [hjl, List.drop_length, sumG] at h2
            exact .inl ⟨h1, h2⟩
          · exact .inr h1
        clear HST HALL hx
        rcases hfin with ⟨rfl, hs⟩ | ⟨rfl, hs⟩
        all_goals
          rw [hs] at SU
          clear hs
          go_wp2_with (at_builtin; refine wpList_appN rfl _ _ rfl wr.heap.size _ xs rfl ⟨rfl, .inr ⟨wr.heap.size, 0, #[], rfl, Nat.le_refl _, Blk.new _ _ _, Nat.le_refl _, by unfold maxLen; omega, rfl, rfl⟩⟩ _ _ rfl (HA'.out.below ((Below.refl _ _).alloc (Nat.le_refl _) _) (Nat.le_refl _)) (by omega) (by simp) ?_)
          intro a' c' w1 hN hb1
          have hw1 : Below w.heap.size w w1 := (hw.alloc hw.size _).trans (hb1.mono hw.size)
          have E1 : Blk w1 w8.heap.size #[.int .i64 u1, .int .i64 (v1 : Int)] 23 := (E0.alloc _).below hb1 k8
          clear c00 c01 f00 f01 E0 k8 hb1 hw
          go_wp2_with (go_at_call 24; with_reducible refine (SU.out _ _ _ hN).mono ?_; rintro e w2 ⟨rfl, hb⟩
                       have hw2 := hw1.trans (hb.mono hw1.size)
                       have E2 := E1.below hb E1.lt
                       have k9 : w8.heap.size < w2.heap.size := E2.lt
                       obtain ⟨c00, c01, f00, f01⟩ := E2.two
                       clear hb hN hw1 E1)
          refine bodyPost_ret (v := .bool true) (by simp [results, Tryz.results5, go_sem]) rfl ⟨rfl, ?_⟩
          exact hw2.alloc hw2.size _
  · rw [e3] at HL5o
    simp only [if_true, if_false, Bool.false_eq_true] at HL5o
    subst HL5o
    go_upto_region 15 with (first
      | (go_at_call 10
         with_reducible refine (CL.out _).mono ?_
         rintro e w6 ⟨rfl, hb⟩
         have hw6 : Below w.heap.size w w6 := ((hw5.alloc (by have := hw5.size; simp; try omega) _).alloc (by have := hw5.size; simp; try omega) _).trans (hb.mono (by have := hw5.size; simp; omega))
         have Fw6 := ((Fw5.alloc _).alloc _).below hb (by have := Fw5.lt; simp; omega)
         have Cw6 := ((Cw5.alloc _).alloc _).below hb (by have := Cw5.lt; simp; omega)
         have Gw6 := ((Gw5.alloc _).alloc _).below hb (by have := Gw5.lt; simp; omega)
         have Ww6 : Blk w6 (w5.heap.size + 1) #[.int .i64 F, .int .i64 0] 23 := (Blk.here rfl (by simp)).below hb (by simp)
         clear hb cC0 cC1 fC0 fC1 cF0 cF1 fF0 fF1 cG0 cG1 fG0 fG1 cL0 cL1 fL0 fL1 Fw5 Cw5 Gw5 Lw5
         obtain ⟨cF0, cF1, fF0, fF1⟩ := Fw6.two
         have kFw6 : q6 < w6.heap.size := Fw6.lt
         obtain ⟨cC0, cC1, fC0, fC1⟩ := Cw6.two
         have kCw6 : q7 < w6.heap.size := Cw6.lt
         obtain ⟨cG0, cG1, fG0, fG1⟩ := Gw6.two
         have kGw6 : q8 < w6.heap.size := Gw6.lt
         obtain ⟨cW0, cW1, fW0, fW1⟩ := Ww6.two
         have kWw6 : (w5.heap.size + 1) < w6.heap.size := Ww6.lt))
    refine wp_worldT ?_
    intro w8 hw8e
    have hw8 : Below w.heap.size w w8 := by
      rw [hw8e]
      exact ((hw6.setCell (by simp; omega) _).setCell (by simp; omega) _)
    clear hw8e cF0 cF1 fF0 fF1 cC0 cC1 fC0 fC1 cG0 cG1 fG0 fG1 cW0 cW1 fW0 fW1 kFw6 kCw6 kGw6 kWw6 Fw6 Cw6 Gw6 Ww6 hw6 hw5 hw4 hw' CL S1 S2
    go_wp2_with fail
    go_loopg [14, 15] (xs.length) (fun m hv iv wr => ∃ (j : Nat) (h u1 : Int) (v1 : Nat), m + j = xs.length ∧ hv = .int .i64 h ∧ iv = .int .i64 (j : Int) ∧ Below w.heap.size w wr ∧ Blk wr w8.heap.size #[.int .i64 u1, .int .i64 (v1 : Int)] 23 ∧ (∀ p ∈ xs.take j, Rt p.1 p.2) ∧ SumSt xs j h u1 v1)
    case atStart =>
      refine ⟨0, 0, 0, 0, by omega, rfl, rfl, hw8.alloc hw8.size _, Blk.here rfl rfl, fun p hp => by simp at hp, .inl ⟨rfl, Rt.zero, by rfl⟩⟩
    case round =>
      obtain ⟨j, h, u1, v1, hmj, rfl, rfl, hw, E0, hall, hst⟩ := hrel
      have k8 : w8.heap.size < wr.heap.size := E0.lt
      obtain ⟨c00, c01, f00, f01⟩ := E0.two
      have HALL := Lib.hid hall
      have HST := Lib.hid hst
      clear hall hst
      have w8s := hw8.size
      by_cases hlt : j < xs.length
      · obtain ⟨⟨n1, t1⟩, hjx⟩ : ∃ x, xs[j]? = some x := ⟨xs[j], by simp [hlt]⟩
        obtain ⟨b, o, rfl, hb0, x0, x1⟩ := ARow.cells hR hjx
        have y0 := (hw.cell (p := ⟨b, o + j * 2, none⟩) hb0).trans x0
        have y1 := (hw.cell (p := ⟨b, o + j * 2 + 1, none⟩) hb0).trans x1
        have i0 : decide ((j : Int) < (xs.length : Int)) = true := by simp; omega
        have hj64 : IntKind.i64.wrap ((j : Int) + 1) = (j : Int) + 1 := IntWalk.i64_in _ (by omega)
        have RX := Lib.hid (fun w => law_right_any n1 t1 w)
        have HJX := Lib.hid hjx
        clear x0 x1 hjx
        cases eX : rightF n1 t1
        · rw [eX] at RX
          go_wp2_with (go_at_call 9; with_reducible refine (RX.out _).mono ?_; rintro e w9 ⟨rfl, hb⟩
                       have hw9 := hw.trans (hb.mono hw.size)
                       clear hb)
          exact bodyPost_ret (v := .bool true) (by simp [results, Tryz.results5, go_sem]) rfl ⟨rfl, hw9⟩
        · rw [eX] at RX
          have hX := (rightF_iff n1 t1).1 eX
          obtain ⟨t2, rfl⟩ := rt_nat hX
          have HX := Lib.hid hX
          have hall' : ∀ p ∈ xs.take (j + 1), Rt p.1 p.2 := by
            rw [List.take_add_one, HJX.out]
            intro p hp
            simp only [Option.toList_some, List.mem_append, List.mem_singleton] at hp
            rcases hp with hp | rfl
            · exact HALL.out p hp
            · exact hX
          have HALL' := Lib.hid hall'
          have hd : xs.drop j = (n1, (t2 : Int)) :: xs.drop (j + 1) := by
            have := HJX.out
            rw [List.getElem?_eq_getElem hlt] at this
            rw [List.drop_eq_getElem_cons hlt, Option.some.inj this]
          have HD := Lib.hid hd
          clear hX eX hall' hd
          rcases HST.out with ⟨rfl, hv, hs⟩ | ⟨rfl, hs⟩
          · have AD := Lib.hid (fun w => add_any u1 n1 v1 t2 hv HX.out w)
            obtain ⟨a1, a2', a3, hadd⟩ : ∃ a1 a2 a3, addF u1 v1 n1 t2 = (a1, a2, a3) := ⟨_, _, _, rfl⟩
            obtain ⟨a2, ha2, hnext⟩ : ∃ a2 : Nat, a2' = (a2 : Int) ∧ SumSt xs (j + 1) a3 a1 a2 := by
              rcases addF_cases hv HX.out with ha | ⟨x, y, ha, hxy, -⟩
              · rw [ha] at hadd
                cases hadd
                refine ⟨0, rfl, .inr ⟨rfl, ?_⟩⟩
                rw [hs, HD.out, sumG_err ha]
              · obtain ⟨y', rfl⟩ := rt_nat hxy
                rw [ha] at hadd
                cases hadd
                refine ⟨y', rfl, .inl ⟨rfl, hxy, ?_⟩⟩
                rw [hs, HD.out, sumG_ok ha]
            subst ha2
            rw [hadd] at AD
            have HN := Lib.hid hnext
            clear hnext hadd hs hv
            go_wp2_with (go_at_call 9; with_reducible refine (RX.out _).mono ?_; rintro e w9 ⟨rfl, hb⟩
                         have hw9 := hw.trans (hb.mono hw.size)
                         have z0 := (hb.cell (p := ⟨b, o + j * 2, none⟩) (Nat.lt_of_lt_of_le hb0 hw.size)).trans y0
                         have z1 := (hb.cell (p := ⟨b, o + j * 2 + 1, none⟩) (Nat.lt_of_lt_of_le hb0 hw.size)).trans y1
                         have E9 := E0.below hb E0.lt
                         clear hb c00 c01 f00 f01 y0 y1 E0 k8)
            refine RJ.region_steps (R := (BR w.heap.size)) 10 [some 129, some 130, some 131, some 132, some 133, some 134, some 128, some 135, some 136, none] (JS w8.heap.size 23 #[.int .i64 u1, .int .i64 (v1 : Int)] #[.int .i64 a1, .int .i64 (a2 : Int)]) BR.trans BR.drew ⟨fun _ => E9, fun h => by simp [orig, undef] at h⟩ (by kernel_rfl) (by kernel_rfl) ?_
            -- 0: Op.load 23 (Operand.tmp 13)
            refine RJ.ls_genO (RJ.MP.val (.agg #[.int .i64 u1, .int .i64 (v1 : Int)])) ?_ ?_
            · intro x w' hb hj hpre ho K hK
              have hS := hj.a (by rw [ho 9 (by omega) (.inr (by kernel_rfl))]; simp [orig])
              obtain ⟨d0, d1, d2, d3⟩ := hS.two
              clear ho
              have g0 := (Below.cell (p := ⟨b, o + j * 2, none⟩) hb hb0).trans z0
              have g1 := (Below.cell (p := ⟨b, o + j * 2 + 1, none⟩) hb hb0).trans z1
              clear hpre
              simp only [frL, Act.put, List.setIfInBounds_toArray, List.set_cons_zero, List.set_cons_succ, Nat.zero_add, Nat.reduceAdd] at hK ⊢
              have HK := Lib.hid hK
              clear hK
              refine Held.mk ?_
              go_simp
              exact HK.out _ _ rfl (hj.same (by decide) _) (Below.refl _ _)
            -- 1: Op.move (Operand.tmp 1)
            refine RJ.ls_gen (RJ.MP.val (.slice (some ⟨b, o, none⟩) xs.length c)) ?_ ?_
            · intro x w' hb hj hpre K hK
              have g0 := (Below.cell (p := ⟨b, o + j * 2, none⟩) hb hb0).trans z0
              have g1 := (Below.cell (p := ⟨b, o + j * 2 + 1, none⟩) hb hb0).trans z1
              clear hpre
              simp only [frL, Act.put, List.setIfInBounds_toArray, List.set_cons_zero, List.set_cons_succ, Nat.zero_add, Nat.reduceAdd] at hK ⊢
              have HK := Lib.hid hK
              clear hK
              refine Held.mk ?_
              go_simp
              exact HK.out _ _ rfl (hj.same (by decide) _) (Below.refl _ _)
            -- 2: Op.move (Operand.tmp 15)
            refine RJ.ls_gen (RJ.MP.val (.int .i64 (j : Int))) ?_ ?_
            · intro x w' hb hj hpre K hK
              have g0 := (Below.cell (p := ⟨b, o + j * 2, none⟩) hb hb0).trans z0
              have g1 := (Below.cell (p := ⟨b, o + j * 2 + 1, none⟩) hb hb0).trans z1
              clear hpre
              simp only [frL, Act.put, List.setIfInBounds_toArray, List.set_cons_zero, List.set_cons_succ, Nat.zero_add, Nat.reduceAdd] at hK ⊢
              have HK := Lib.hid hK
              clear hK
              refine Held.mk ?_
              go_simp
              exact HK.out _ _ rfl (hj.same (by decide) _) (Below.refl _ _)
            -- 3: Op.indexAddr 45 (Operand.tmp 130) (Operand.tmp 131)
            refine RJ.ls_gen (RJ.MP.val (.pointer (some ⟨b, o + j * 2, none⟩))) ?_ ?_
            · intro x w' hb hj hpre K hK
              have g0 := (Below.cell (p := ⟨b, o + j * 2, none⟩) hb hb0).trans z0
              have g1 := (Below.cell (p := ⟨b, o + j * 2 + 1, none⟩) hb hb0).trans z1
              simp [preds, Region.binds, RJ.phi, RJ.MP.val, RJ.MP.val] at hpre
              simp only [frL, Act.put, List.setIfInBounds_toArray, List.set_cons_zero, List.set_cons_succ, Nat.zero_add, Nat.reduceAdd, hpre] at hK ⊢
              have HK := Lib.hid hK
              clear hK
              refine Held.mk ?_
              go_simp
              exact HK.out _ _ rfl (hj.same (by decide) _) (Below.refl _ _)
            -- 4: Op.load 23 (Operand.tmp 132)
            refine RJ.ls_gen (RJ.MP.val (.agg #[.int .i64 n1, .int .i64 (t2 : Int)])) ?_ ?_
            · intro x w' hb hj hpre K hK
              have g0 := (Below.cell (p := ⟨b, o + j * 2, none⟩) hb hb0).trans z0
              have g1 := (Below.cell (p := ⟨b, o + j * 2 + 1, none⟩) hb hb0).trans z1
              simp [preds, Region.binds, RJ.phi, RJ.MP.val, RJ.MP.val] at hpre
              simp only [frL, Act.put, List.setIfInBounds_toArray, List.set_cons_zero, List.set_cons_succ, Nat.zero_add, Nat.reduceAdd, hpre] at hK ⊢
              have HK := Lib.hid hK
              clear hK
              refine Held.mk ?_
              go_simp
              exact HK.out _ _ rfl (hj.same (by decide) _) (Below.refl _ _)
            -- 5: Op.call { callee := Callee.value (Operand.func 11), args := #[Operand.tmp 129, O
            refine RJ.ls_gen (RJ.MP.val (.tuple #[.agg #[.int .i64 a1, .int .i64 (a2 : Int)], .int .i64 a3])) ?_ ?_
            · intro x w' hb hj hpre K hK
              simp [preds, Region.binds, RJ.phi, RJ.MP.val] at hpre
              simp only [frL, Act.put, List.setIfInBounds_toArray, List.set_cons_zero, List.set_cons_succ, Nat.zero_add, Nat.reduceAdd, hpre] at hK ⊢
              have HK := Lib.hid hK
              clear hK
              refine Held.mk ?_
              go_simp
              (with_reducible refine (AD.out _).mono ?_)
              rintro e w1 ⟨rfl, hb1⟩
              dsimp only
              exact HK.out _ _ rfl (hj.below (by decide) _ hb1) (Below.mono hb1 (Nat.le_trans hw9.size (Below.size hb)))
            -- 6: Op.move (Operand.tmp 134)
            refine RJ.ls_gen (RJ.MP.val (.tuple #[.agg #[.int .i64 a1, .int .i64 (a2 : Int)], .int .i64 a3])) ?_ ?_
            · intro x w' hb hj hpre K hK
              have g0 := (Below.cell (p := ⟨b, o + j * 2, none⟩) hb hb0).trans z0
              have g1 := (Below.cell (p := ⟨b, o + j * 2 + 1, none⟩) hb hb0).trans z1
              simp [preds, Region.binds, RJ.phi, RJ.MP.val, RJ.MP.val] at hpre
              simp only [frL, Act.put, List.setIfInBounds_toArray, List.set_cons_zero, List.set_cons_succ, Nat.zero_add, Nat.reduceAdd, hpre] at hK ⊢
              have HK := Lib.hid hK
              clear hK
              refine Held.mk ?_
              go_simp
              exact HK.out _ _ rfl (hj.same (by decide) _) (Below.refl _ _)
            -- 7: Op.extract (Operand.tmp 128) 0
            refine RJ.ls_gen (RJ.MP.val (.agg #[.int .i64 a1, .int .i64 (a2 : Int)])) ?_ ?_
            · intro x w' hb hj hpre K hK
              have g0 := (Below.cell (p := ⟨b, o + j * 2, none⟩) hb hb0).trans z0
              have g1 := (Below.cell (p := ⟨b, o + j * 2 + 1, none⟩) hb hb0).trans z1
              simp [preds, Region.binds, RJ.phi, RJ.MP.val, RJ.MP.val] at hpre
              simp only [frL, Act.put, List.setIfInBounds_toArray, List.set_cons_zero, List.set_cons_succ, Nat.zero_add, Nat.reduceAdd, hpre] at hK ⊢
              have HK := Lib.hid hK
              clear hK
              refine Held.mk ?_
              go_simp
              exact HK.out _ _ rfl (hj.same (by decide) _) (Below.refl _ _)
            -- 8: Op.extract (Operand.tmp 128) 1
            refine RJ.ls_gen (RJ.MP.val (.int .i64 a3)) ?_ ?_
            · intro x w' hb hj hpre K hK
              have g0 := (Below.cell (p := ⟨b, o + j * 2, none⟩) hb hb0).trans z0
              have g1 := (Below.cell (p := ⟨b, o + j * 2 + 1, none⟩) hb hb0).trans z1
              simp [preds, Region.binds, RJ.phi, RJ.MP.val, RJ.MP.val] at hpre
              simp only [frL, Act.put, List.setIfInBounds_toArray, List.set_cons_zero, List.set_cons_succ, Nat.zero_add, Nat.reduceAdd, hpre] at hK ⊢
              have HK := Lib.hid hK
              clear hK
              refine Held.mk ?_
              go_simp
              exact HK.out _ _ rfl (hj.same (by decide) _) (Below.refl _ _)
            -- 9: Op.store 23 (Operand.tmp 13) (Operand.tmp 135)
            refine RJ.ls_genO (RJ.MP.val (.bool true)) ?_ ?_
            · intro x w' hb hj hpre ho K hK
              have hS := hj.a (by rw [ho 9 (by omega) (.inl rfl)]; simp [orig])
              obtain ⟨d0, d1, d2, d3⟩ := hS.two
              have dk : w8.heap.size < w'.heap.size := hS.lt
              clear ho
              simp [preds, Region.binds, RJ.phi, RJ.MP.val] at hpre
              simp only [frL, Act.put, List.setIfInBounds_toArray, List.set_cons_zero, List.set_cons_succ, Nat.zero_add, Nat.reduceAdd, hpre] at hK ⊢
              have HK := Lib.hid hK
              clear hK
              refine Held.mk ?_
              go_simp
              exact HK.out (.bool true) _ rfl (JS.put ((hS.set 0 _).set 1 _)) (((Below.refl _ _).setCell (by simpa using w8s) _).setCell (by simpa using w8s) _)
            intro x w' hb hp hJ
            simp only [List.cons_append, List.nil_append, RJ.phis, RJ.MP.val, frL, Act.put, List.setIfInBounds_toArray, List.set_cons_zero, List.set_cons_succ, Nat.zero_add, Nat.reduceAdd] at hp ⊢
            obtain ⟨h0, h1, h2, h3, h4, h5, h6, h7, h8, h9, -⟩ := hp
            have hF : Blk w' w8.heap.size #[.int .i64 a1, .int .i64 (a2 : Int)] 23 := hJ.b h9
            simp only [h0, h1, h2, h3, h4, h5, h6, h7, h8]
            clear hJ h0 h1 h2 h3 h4 h5 h6 h7 h8 h9
            have hw1 : Below w.heap.size w w' := hw9.trans hb
            clear hb E9 hw9 z0 z1
            go_wp2_with fail
            go_roundg (gk - 1)
            case measure => omega
            case rel => exact ⟨j + 1, a3, a1, a2, by omega, rfl, by go_num, hw1, hF, HALL'.out, HN.out⟩
          · have hnext : SumSt xs (j + 1) 53 u1 v1 := .inr ⟨rfl, hs⟩
            have HN := Lib.hid hnext
            clear hnext hs
            go_wp2_with (go_at_call 9; with_reducible refine (RX.out _).mono ?_; rintro e w9 ⟨rfl, hb⟩
                         have hw9 := hw.trans (hb.mono hw.size)
                         have E9 := E0.below hb E0.lt
                         clear hb c00 c01 f00 f01 y0 y1 E0 k8)
            go_roundg (gk - 1)
            case measure => omega
            case rel => exact ⟨j + 1, 53, u1, v1, by omega, rfl, by go_num, hw9, E9, HALL'.out, HN.out⟩
      · have hjl : j = xs.length := by omega
        have i0 : decide ((j : Int) < (xs.length : Int)) = false := by simp; omega
        have hx : ∀ p ∈ xs, Rt p.1 p.2 := by
          have := HALL.out
          rw [hjl, List.take_of_length_le (Nat.le_refl _)] at this
          exact this
        have SU := Lib.hid (fun a' c' w' h => sum_any a' c' xs hx w' h (by omega))
        have HA' := Lib.hid (hR.below hw (Nat.le_refl _))
        have hfin : (h = 0 ∧ sumG 0 0 xs = (u1, (v1 : Int), 0)) ∨ (h = 53 ∧ sumG 0 0 xs = (0, 0, 53)) := by
          rcases HST.out with ⟨h1, -, h2⟩ | h1
          · rw [hjl, List.drop_length, sumG] at h2
            exact .inl ⟨h1, h2⟩
          · exact .inr h1
        clear HST HALL hx
        rcases hfin with ⟨rfl, hs⟩ | ⟨rfl, hs⟩
        all_goals
          rw [hs] at SU
          clear hs
          go_wp2_with (at_builtin; refine wpList_appN rfl _ _ rfl wr.heap.size _ xs rfl ⟨rfl, .inr ⟨wr.heap.size, 0, #[], rfl, Nat.le_refl _, Blk.new _ _ _, Nat.le_refl _, by unfold maxLen; omega, rfl, rfl⟩⟩ _ _ rfl (HA'.out.below ((Below.refl _ _).alloc (Nat.le_refl _) _) (Nat.le_refl _)) (by omega) (by simp) ?_)
          intro a' c' w1 hN hb1
          have hw1 : Below w.heap.size w w1 := (hw.alloc hw.size _).trans (hb1.mono hw.size)
          have E1 : Blk w1 w8.heap.size #[.int .i64 u1, .int .i64 (v1 : Int)] 23 := (E0.alloc _).below hb1 k8
          clear c00 c01 f00 f01 E0 k8 hb1 hw
          go_wp2_with (go_at_call 24; with_reducible refine (SU.out _ _ _ hN).mono ?_; rintro e w2 ⟨rfl, hb⟩
                       have hw2 := hw1.trans (hb.mono hw1.size)
                       have E2 := E1.below hb E1.lt
                       have k9 : w8.heap.size < w2.heap.size := E2.lt
                       obtain ⟨c00, c01, f00, f01⟩ := E2.two
                       clear hb hN hw1 E1)
          refine bodyPost_ret (v := .bool true) (by simp [results, Tryz.results5, go_sem]) rfl ⟨rfl, ?_⟩
          exact hw2.alloc hw2.size _
end Go.Proofs.YtgbghbeolndfiaaGreatDoor

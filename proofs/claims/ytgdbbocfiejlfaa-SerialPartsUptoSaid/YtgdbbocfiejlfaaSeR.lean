/- The law SerialParts, of no trees. -/
import Derived.Test.YtgdbbocfiejlfaaSeR0
set_option linter.unusedSimpArgs false
set_option linter.unusedVariables false
set_option linter.constructorNameAsVariable false
namespace Go.Proofs.Ytgdbbocfiejlfaa
open Go.RowKit

set_option maxRecDepth 100000 in
set_option maxHeartbeats 1000000 in
theorem law_nil (w : World) (m z : Int) (hm : w.cell? ⟨0, 0, none⟩ = some (.int .i64 m)) (hz : -9223372036854775808 ≤ z ∧ z ≤ 9223372036854775807) :
    Calls Try.prog 3 #[.slice none 0 0, .int .i64 z] w fun e w' => e = .returned (.bool true) ∧ Below w.heap.size w w' := by
  have h0 : 0 < w.heap.size := by
    rcases Nat.eq_zero_or_pos w.heap.size with h9 | h9
    · simp [World.cell?, Array.getElem?_eq_none (show w.heap.size ≤ 0 by omega)] at hm
    · exact h9
  have HM := Lib.hid hm
  have CA := Lib.hid (fun (V : World) (hV : Below w.heap.size w V) => awake_any V m ((hV.cell (p := ⟨0, 0, none⟩) h0).trans hm))
  have CF : Hid (∀ V, Below w.heap.size w V → Calls Try.prog 5 #[.int .i64 2000, .slice none 0 0] V fun e w' => e = .returned (.bool true) ∧ Below V.heap.size V w') := fun V hV => few_any 1 2000 none 0 [] V (.inl rfl) (by show (0 : Nat) ≤ _; omega) (by omega) (by omega)
  have CT : Hid (∀ V, Below w.heap.size w V → Calls Try.prog 6 #[.slice none 0 0] V fun e w' => e = .returned (.tuple #[.string ⟨#[]⟩, .int .i64 0]) ∧ Below V.heap.size V w') := fun V hV => stree_any 1 [] none 0 V m (.inl rfl) (by show (0 : Nat) ≤ _; omega) (fun t ht => nomatch ht) (by show (0 : Nat) ≤ _; omega) ((hV.cell (p := ⟨0, 0, none⟩) h0).trans hm)
  clear hm
  go_enter Try.func3, Try.ntmps3
  go_wp2_with fail
  with_reducible refine (CA.out w (Below.refl _ _)).mono ?_
  rintro e w1 ⟨rfl, hw1⟩
  clear CA
  go_wp2_with fail
  with_reducible refine (CF.out w1 hw1).mono ?_
  rintro e w2 ⟨rfl, hb2⟩
  have hw2 := hw1.trans (hb2.mono hw1.size)
  clear hb2 CF
  go_wp2_with fail
  go_loopg [5, 6] 1 (fun m ss ii wr => ii = .int .i64 0 ∧ ss = .string ⟨#[]⟩ ∧ Below w.heap.size w wr)
  case atStart => exact ⟨rfl, rfl, hw2⟩
  case round =>
      obtain ⟨rfl, rfl, hwr⟩ := hrel
      have hrm := tmod_lt z 0
      simp only [Int.natCast_zero, Int.zero_add] at hrm
      go_wp2_with fail
      with_reducible refine (CT.out wr hwr).mono ?_
      rintro e w3 ⟨rfl, hb3⟩
      have hw3 := hwr.trans (hb3.mono hwr.size)
      clear hb3 CT
      go_wp2_with fail
      obtain ⟨A, hA⟩ : ∃ A : List C5, A = [] := ⟨_, rfl⟩
      obtain ⟨D, hD⟩ : ∃ D : List C5, D = [] := ⟨_, rfl⟩
      obtain ⟨ac, hac⟩ : ∃ ac, ac = acT := ⟨_, rfl⟩
      obtain ⟨odd, hodd⟩ : ∃ odd, odd = [attrT 0] := ⟨_, rfl⟩
      have HO : Hid ((∀ p ∈ A, p.one) ∧ (∀ p ∈ D, p.one) ∧ A.length = 0 ∧ ([] : List C5).length + A.length ≤ 1000000000 ∧ (∀ p ∈ [ac], p.one) ∧ A.length + [ac].length ≤ 1000000000 ∧ (D.length = 0 ∧ (A ++ [ac]).length + D.length ≤ 1000000000) ∧ ∀ (V : World) (g : Nat), w3.heap.size ≤ g → Blk V g #[.int .i64 3, .string ⟨#[120]⟩, .string ⟨#[]⟩, .slice none 0 0, .slice none 0 0] 31 → Own5 w3.heap.size V (.slice (some ⟨g, 0, none⟩) 1 1) [ac]) := by
        unfold Hid
        rw [hA, hD, hac]
        exact ⟨(fun p hp => nomatch hp), (fun p hp => nomatch hp), rfl, by decide, acT_one, by decide, ⟨rfl, by decide⟩, fun V g hg hB => Own5.box (ac := acT) hg hB⟩
      have HO2 : Hid (∀ w', Below w3.heap.size w3 w' → RepS All 1 w' odd (A ++ [ac] ++ D)) := by
        intro w' hw'
        rw [hodd, hA, hD, hac]
        exact RepS.single (attrT_lies All 0 w')
      have HO3 : Hid (∀ a5 c5 w', Below w.heap.size w w' → TRowT 1 w' a5 odd → Calls Try.prog 6 #[.slice a5 odd.length c5] w' fun e w'' => e = .returned (.tuple #[.string ⟨#[]⟩, .int .i64 57]) ∧ Below w'.heap.size w' w'') := by
        intro a5 c5 w' hw' hrow
        have hno : oks 1 odd = false := oks_no (x := attrT 0) (by rw [hodd]; simp) (attrT_ok 0)
        have := stree_any 1 odd a5 c5 w' m hrow (by rw [hodd]; show (1 : Nat) ≤ _; omega) (fun t ht => by
          rw [hodd, List.mem_singleton] at ht
          rw [ht]; exact attrT_str 0) (by rw [hodd]; show (0 : Nat) ≤ _; omega) ((hw'.cell (p := ⟨0, 0, none⟩) h0).trans HM.out)
        rw [(text_no hno).1, (text_no hno).2] at this
        exact this
      clear hac hodd hrm
      refine RC.region_steps (R := (RA w3.heap.size A D ac)) 12 [some 79, some 80, some 81, some 82, some 83, some 84, some 85, some 86, some 87, some 88, some 89, some 90] (fun _ _ => True) (fun a b c h1 h2 => h1.trans h2) (fun w => RA.drew w) (fun _ => trivial) (by kernel_rfl) (by kernel_rfl) ?_
      -- 0: Op.buildSlice 22 0 #[]
      refine RC.ls_gen (MPe w3.heap.size A D ac) ?_ ?_
      · intro x w' hb hj hpre K hK
        clear hpre
        simp only [frL, Act.put, List.setIfInBounds_toArray, List.set_cons_zero, List.set_cons_succ, Nat.zero_add, Nat.reduceAdd] at hK ⊢
        have HK := Lib.hid hK
        clear hK
        refine Held.mk ?_
        go_simp
        exact HK.out _ _ ⟨⟨_, rfl⟩, Own5.bare hb.1.size (Blk.new _ _ _)⟩ trivial (RA.of hb.1.size ((Below.refl _ _).alloc (Nat.le_refl _) _))
      -- 1: Op.move (Operand.tmp 0)
      apply RC.ls_val (fun _ _ _ _ _ _ => trivial)
      · intro x w' hb hpre K hK
        have zs := hb.1.size
        clear hpre
        simp only [frL, Act.put, List.setIfInBounds_toArray, List.set_cons_zero, List.set_cons_succ, Nat.zero_add, Nat.reduceAdd] at hK ⊢
        have HK := Lib.hid hK
        clear hK
        refine Held.mk ?_
        go_simp
        exact HK.out _ (RA.refl _ _ _ _ _)
      -- 2: Op.move (Operand.tmp 13)
      apply RC.ls_val (fun _ _ _ _ _ _ => trivial)
      · intro x w' hb hpre K hK
        have zs := hb.1.size
        clear hpre
        simp only [frL, Act.put, List.setIfInBounds_toArray, List.set_cons_zero, List.set_cons_succ, Nat.zero_add, Nat.reduceAdd] at hK ⊢
        have HK := Lib.hid hK
        clear hK
        refine Held.mk ?_
        go_simp
        exact HK.out _ (RA.refl _ _ _ _ _)
      -- 3: Op.slice 22 (Operand.tmp 80) none (some (Operand.tmp 81)) none
      apply RC.ls_val (fun _ _ _ _ _ _ => trivial)
      · intro x w' hb hpre K hK
        have zs := hb.1.size
        simp [preds, Region.binds, RC.phi, RC.MP.val] at hpre
        simp only [frL, Act.put, List.setIfInBounds_toArray, List.set_cons_zero, List.set_cons_succ, Nat.zero_add, Nat.reduceAdd, hpre] at hK ⊢
        have HK := Lib.hid hK
        clear hK
        refine Held.mk ?_
        go_simp
        exact HK.out _ (RA.refl _ _ _ _ _)
      -- 4: Op.call { callee := Callee.builtin Builtin.append, args := #[Operand.tmp 79, Ope
      refine RC.ls_gen (MPo w3.heap.size A D ac ([] ++ A) (.inr (.inl rfl))) ?_ ?_
      · intro x w' hb hj hpre K hK
        obtain ⟨⟨g0, e0⟩, hown⟩ : (∃ g, x 0 = .slice (some ⟨g, 0, none⟩) 0 0) ∧ Own5 w3.heap.size w' (x 0) [] := hpre.1 rfl
        have e3 : x 3 = .slice none 0 0 := hpre.2.1 rfl
        clear hpre
        simp only [frL, Act.put, List.setIfInBounds_toArray, List.set_cons_zero, List.set_cons_succ, Nat.zero_add, Nat.reduceAdd] at hK ⊢
        refine Held.mk (step_appR ?_ (.tmp 79) (.tmp 82) rfl w3.heap.size (x 0) [] ?_ hown none 0 0 A ?_ HO.out.2.2.1 (rawN2 HO.out.2.2.1) HO.out.1 HO.out.2.2.2.1 hb.1.size A D ac ?_ ?_)
        · simp [Region.wanted]
        · simp [Act.eval]
        · simp [Act.eval, e3]
        · intro vs2 hin a9 n9 cap9 hv hroom j9 x9 y9 hx9 hy9
          rw [e0] at hv
          cases hv
          have hA0 : A = [] := List.length_eq_zero_iff.1 (by simpa using hroom)
          rw [hA0] at hy9
          cases hy9
        · intro v9 w9 h9 hr9
          simp only [Act.put, List.setIfInBounds_toArray, List.set_cons_zero, List.set_cons_succ]
          exact hK v9 w9 h9 trivial hr9
      -- 5: Op.build 31 #[(0, Operand.const (Value.int IntKind.i64 3)), (1, Operand.const (V
      apply RC.ls_val (fun _ _ _ _ _ _ => trivial)
      · intro x w' hb hpre K hK
        have zs := hb.1.size
        clear hpre
        simp only [frL, Act.put, List.setIfInBounds_toArray, List.set_cons_zero, List.set_cons_succ, Nat.zero_add, Nat.reduceAdd] at hK ⊢
        have HK := Lib.hid hK
        clear hK
        refine Held.mk ?_
        go_simp
        exact HK.out _ (RA.refl _ _ _ _ _)
      -- 6: Op.buildSlice 22 1 #[(0, Operand.tmp 84)]
      refine RC.ls_gen (MPb w3.heap.size A D ac) ?_ ?_
      · intro x w' hb hj hpre K hK
        have p0 := hpre.1 rfl
        clear hpre
        simp [RC.phi, RC.MP.val] at p0
        simp only [frL, Act.put, List.setIfInBounds_toArray, List.set_cons_zero, List.set_cons_succ, Nat.zero_add, Nat.reduceAdd, p0] at hK ⊢
        have HK := Lib.hid hK
        clear hK
        refine Held.mk ?_
        go_simp
        exact HK.out _ _ ⟨⟨_, rfl⟩, HO.out.2.2.2.2.2.2.2 _ _ hb.1.size (Blk.new _ _ _)⟩ trivial (RA.of hb.1.size ((Below.refl _ _).alloc (Nat.le_refl _) _))
      -- 7: Op.call { callee := Callee.builtin Builtin.append, args := #[Operand.tmp 83, Ope
      refine RC.ls_gen (MPo w3.heap.size A D ac (A ++ [ac]) (.inr (.inr (.inl rfl)))) ?_ ?_
      · intro x w' hb hj hpre K hK
        have hown : Own5 w3.heap.size w' (x 4) A := hpre.1 rfl
        obtain ⟨⟨g6, e6⟩, ho6⟩ : (∃ g, x 6 = .slice (some ⟨g, 0, none⟩) 1 1) ∧ Own5 w3.heap.size w' (x 6) [ac] := hpre.2.1 rfl
        rw [e6] at ho6
        clear hpre
        simp only [frL, Act.put, List.setIfInBounds_toArray, List.set_cons_zero, List.set_cons_succ, Nat.zero_add, Nat.reduceAdd] at hK ⊢
        refine Held.mk (step_appR ?_ (.tmp 83) (.tmp 85) rfl w3.heap.size (x 4) A ?_ hown (some ⟨g6, 0, none⟩) 1 1 [ac] ?_ rfl ho6.raw HO.out.2.2.2.2.1 HO.out.2.2.2.2.2.1 hb.1.size A D ac ?_ ?_)
        · simp [Region.wanted]
        · simp [Act.eval]
        · simp [Act.eval, e6]
        · intro vs2 hin a9 n9 cap9 hv hroom j9 x9 y9 hx9 hy9
          exact agree_mid hin j9 x9 y9 hx9 hy9
        · intro v9 w9 h9 hr9
          simp only [Act.put, List.setIfInBounds_toArray, List.set_cons_zero, List.set_cons_succ]
          exact hK v9 w9 h9 trivial hr9
      -- 8: Op.move (Operand.tmp 0)
      apply RC.ls_val (fun _ _ _ _ _ _ => trivial)
      · intro x w' hb hpre K hK
        have zs := hb.1.size
        clear hpre
        simp only [frL, Act.put, List.setIfInBounds_toArray, List.set_cons_zero, List.set_cons_succ, Nat.zero_add, Nat.reduceAdd] at hK ⊢
        have HK := Lib.hid hK
        clear hK
        refine Held.mk ?_
        go_simp
        exact HK.out _ (RA.refl _ _ _ _ _)
      -- 9: Op.move (Operand.tmp 13)
      apply RC.ls_val (fun _ _ _ _ _ _ => trivial)
      · intro x w' hb hpre K hK
        have zs := hb.1.size
        clear hpre
        simp only [frL, Act.put, List.setIfInBounds_toArray, List.set_cons_zero, List.set_cons_succ, Nat.zero_add, Nat.reduceAdd] at hK ⊢
        have HK := Lib.hid hK
        clear hK
        refine Held.mk ?_
        go_simp
        exact HK.out _ (RA.refl _ _ _ _ _)
      -- 10: Op.slice 22 (Operand.tmp 87) (some (Operand.tmp 88)) none none
      apply RC.ls_val (fun _ _ _ _ _ _ => trivial)
      · intro x w' hb hpre K hK
        have zs := hb.1.size
        simp [preds, Region.binds, RC.phi, RC.MP.val] at hpre
        simp only [frL, Act.put, List.setIfInBounds_toArray, List.set_cons_zero, List.set_cons_succ, Nat.zero_add, Nat.reduceAdd, hpre] at hK ⊢
        have HK := Lib.hid hK
        clear hK
        refine Held.mk ?_
        go_simp
        exact HK.out _ (RA.refl _ _ _ _ _)
      -- 11: Op.call { callee := Callee.builtin Builtin.append, args := #[Operand.tmp 86, Ope
      refine RC.ls_gen (MPo w3.heap.size A D ac (A ++ [ac] ++ D) (.inr (.inr (.inr (.inl rfl))))) ?_ ?_
      · intro x w' hb hj hpre K hK
        have hown : Own5 w3.heap.size w' (x 7) (A ++ [ac]) := hpre.1 rfl
        have e10 : x 10 = .slice none 0 0 := hpre.2.1 rfl
        clear hpre
        simp only [frL, Act.put, List.setIfInBounds_toArray, List.set_cons_zero, List.set_cons_succ, Nat.zero_add, Nat.reduceAdd] at hK ⊢
        refine Held.mk (step_appR ?_ (.tmp 86) (.tmp 89) rfl w3.heap.size (x 7) (A ++ [ac]) ?_ hown none 0 0 D ?_ HO.out.2.2.2.2.2.2.1.1 (rawN2 HO.out.2.2.2.2.2.2.1.1) HO.out.2.1 HO.out.2.2.2.2.2.2.1.2 hb.1.size A D ac ?_ ?_)
        · simp [Region.wanted]
        · simp [Act.eval]
        · simp [Act.eval, e10]
        · intro vs2 hin a9 n9 cap9 hv hroom j9 x9 y9 hx9 hy9
          exact agree_end hin j9 x9 y9 hx9 hy9
        · intro v9 w9 h9 hr9
          simp only [Act.put, List.setIfInBounds_toArray, List.set_cons_zero, List.set_cons_succ]
          exact hK v9 w9 h9 trivial hr9
      intro x w' hb hp hJ
      simp only [List.cons_append, List.nil_append, RC.phis, RC.MP.val, frL, Act.put, List.setIfInBounds_toArray, List.set_cons_zero, List.set_cons_succ, Nat.zero_add, Nat.reduceAdd] at hp ⊢
      obtain ⟨h0, h1, h2, h3, h4, h5, h6, h7, h8, h9, h10, h11, -⟩ := hp
      simp only [h1, h2, h3, h5, h8, h9, h10]
      clear h1 h2 h3 h5 h8 h9 h10
      have h11 : Own5 w3.heap.size w' (x 11) (A ++ [ac] ++ D) := h11
      obtain ⟨a5, c5, e11, hrow, -⟩ := own5_read h11 odd (fun t cs => TLies All 1 w' t cs) (HO2.out w' hb.1).1 (HO2.out w' hb.1).2
      simp only [e11]
      have hw9 := hw3.trans (hb.1.mono hw3.size)
      have CO := Lib.hid (HO3.out a5 c5 w' hw9 (KRow.on hrow (kept_of (Below.refl _ _)) (fun _ _ _ => trivial) fun _ _ h => h))
      clear h0 h4 h6 h7 h11 hrow HO HO2 HO3 e11 hb hJ
      show wpList Try.prog _ _ [_] _ _
      go_wp2_with fail
      with_reducible refine CO.out.mono ?_
      rintro e w5 ⟨rfl, hb5⟩
      have hw5 := hw9.trans (hb5.mono hw9.size)
      clear hb5 CO
      go_wp2_with fail
      go_returns
      exact ⟨rfl, hw5⟩
end Go.Proofs.Ytgdbbocfiejlfaa


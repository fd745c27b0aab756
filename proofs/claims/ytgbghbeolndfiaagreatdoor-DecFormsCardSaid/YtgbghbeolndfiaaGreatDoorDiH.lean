/- The document's numbers: sums of whole numbers. -/
import Derived.Test.YtgbghbeolndfiaaGreatDoorDiG
import Derived.Test.YtgbghbeolndfiaaGreatDoorLo
set_option linter.unusedSimpArgs false
set_option linter.unusedVariables false
set_option linter.constructorNameAsVariable false
namespace Go.Proofs.YtgbghbeolndfiaaGreatDoor
open Go.RowKit

theorem wp_worldN {P : Program} {c : Code} {Q : Exit → Act → World → Prop} {a : Act} {w : World} (h : ∀ W, W = w → c.wp P Q a W) : c.wp P Q a w := h w rfl
/-- Signs and digits, added. -/
def addD (n1 : Bool) (xs : List Int) (n2 : Bool) (ys : List Int) : Bool × List Int :=
  if n1 == n2 then (n1, plusL xs ys 0) else if decide (0 ≤ cmpL xs ys) then (n1, trimL (minusL xs ys 0)) else (n2, trimL (minusL ys xs 0))
theorem cmpL_len {xs ys : List Int} (h : 0 ≤ cmpL xs ys) : ys.length ≤ xs.length := by
  unfold cmpL at h
  split at h
  · rename_i h1; simp at h1; omega
  · split at h
    · omega
    · rename_i h2; simp at h2; omega
theorem cmpL_len' {xs ys : List Int} (h : ¬ 0 ≤ cmpL xs ys) : xs.length ≤ ys.length := by
  unfold cmpL at h
  split at h
  · rename_i h1; simp at h1; omega
  · split at h
    · rename_i h2; simp at h2; omega
    · omega
/-- A row, told by its digits. -/
def MP.drow (base : Nat) (L : List Int) : MP := ⟨fun v w => DRow w base v L, fun _ _ _ h hb => h.below hb (Nat.le_refl _)⟩
/-- A number of the document's, told by its sign and digits. -/
def MP.big (base : Nat) (neg : Bool) (L : List Int) : MP := ⟨fun v w => ∃ u, v = .agg #[.bool neg, u] ∧ DRow w base u L, fun _ _ _ ⟨u, e, h⟩ hb => ⟨u, e, h.below hb (Nat.le_refl _)⟩⟩
set_option maxRecDepth 100000 in
set_option maxHeartbeats 8000000 in
theorem radd_any (n1 n2 : Bool) (a b : Option Addr) (c d : Nat) (xs ys : List Int) (w : World) (hI : IRow w a xs.length xs) (hJ : IRow w b ys.length ys) (gx : Dg xs) (gy : Dg ys) (hl : xs.length ≤ 1000000) (hm : ys.length ≤ 1000000) : Calls Tryz.prog 51 #[.agg #[.bool n1, .slice a xs.length c], .agg #[.bool n2, .slice b ys.length d]] w fun e w' =>
    ∃ v, e = .returned (.agg #[.bool (addD n1 xs n2 ys).1, v]) ∧ DRow w' w.heap.size v (addD n1 xs n2 ys).2 ∧ Below w.heap.size w w' := by
  have HI := Lib.hid hI
  have HJ := Lib.hid hJ
  have PL := Lib.hid (fun w' h1 h2 => dplus_any a b c d xs ys w' h1 h2 gx gy hl hm)
  have CM := Lib.hid (fun w' h1 h2 => dcmp_any a b c d xs ys w' h1 h2 hl hm)
  have hpl := plusL_len xs ys 0
  unfold addD
  cases e1 : (n1 == n2)
  rotate_left
  · simp only [if_true]
    have hLl : (plusL xs ys 0).length ≤ 1152921504606846976 := by omega
    obtain ⟨L, hL⟩ : ∃ L, L = plusL xs ys 0 := ⟨_, rfl⟩
    rw [← hL] at PL hLl ⊢
    clear hI hJ gx gy hpl hL CM
    go_enter Tryz.func51, Tryz.ntmps51
    go_upto_region 2 with fail
    refine wp_worldN ?_
    intro w3 hw3
    have E0 : Blk w3 w.heap.size #[.bool n1, .slice a xs.length c] 37 := by rw [hw3]; exact Blk.alloc (Blk.alloc (Blk.here rfl rfl) _) _
    have E1 : Blk w3 (w.heap.size + 1) #[.bool n2, .slice b ys.length d] 37 := by rw [hw3]; exact Blk.alloc (Blk.here rfl (by simp)) _
    have E2 : Blk w3 (w.heap.size + 1 + 1) #[.bool false, .slice none 0 0] 37 := by rw [hw3]; exact Blk.here rfl (by simp)
    have hw : Below w.heap.size w w3 := by rw [hw3]; go_grown
    clear hw3
    have k0 : w.heap.size < w3.heap.size := E0.lt
    have k1 : w.heap.size + 1 < w3.heap.size := E1.lt
    have k2 : w.heap.size + 1 + 1 < w3.heap.size := E2.lt
    obtain ⟨c00, c01, f00, f01⟩ := E0.two
    obtain ⟨c10, c11, f10, f11⟩ := E1.two
    refine region_steps 8 [some 10, some 11, some 12, some 13, some 14, some 15, some 16, some 17] (by kernel_rfl) (by kernel_rfl) ?_
    -- 0: Op.fieldAddr 37 (Operand.tmp 2) 0
    apply ls_val
    · intro x w' hb hpre K hK
      have hc := (bcell hb).1
      clear hpre
      simp only [frL, Act.put, List.setIfInBounds_toArray, List.set_cons_zero, List.set_cons_succ, Nat.zero_add, Nat.reduceAdd] at hK ⊢
      have HK := Lib.hid hK
      clear hK
      refine Held.mk ?_
      go_simp
      exact HK.out _ (Below.refl _ _)
    -- 1: Op.load 4 (Operand.tmp 10)
    apply ls_val
    · intro x w' hb hpre K hK
      have hc := (bcell hb).1
      simp [preds, Region.binds, phi, MP.val, MP.box, MP.row] at hpre
      simp only [frL, Act.put, List.setIfInBounds_toArray, List.set_cons_zero, List.set_cons_succ, Nat.zero_add, Nat.reduceAdd, hpre] at hK ⊢
      have HK := Lib.hid hK
      clear hK
      refine Held.mk ?_
      go_simp
      exact HK.out _ (Below.refl _ _)
    -- 2: Op.fieldAddr 37 (Operand.tmp 2) 1
    apply ls_val
    · intro x w' hb hpre K hK
      have hc := (bcell hb).1
      clear hpre
      simp only [frL, Act.put, List.setIfInBounds_toArray, List.set_cons_zero, List.set_cons_succ, Nat.zero_add, Nat.reduceAdd] at hK ⊢
      have HK := Lib.hid hK
      clear hK
      refine Held.mk ?_
      go_simp
      exact HK.out _ (Below.refl _ _)
    -- 3: Op.load 35 (Operand.tmp 12)
    apply ls_val
    · intro x w' hb hpre K hK
      have hc := (bcell hb).1
      simp [preds, Region.binds, phi, MP.val, MP.box, MP.row] at hpre
      simp only [frL, Act.put, List.setIfInBounds_toArray, List.set_cons_zero, List.set_cons_succ, Nat.zero_add, Nat.reduceAdd, hpre] at hK ⊢
      have HK := Lib.hid hK
      clear hK
      refine Held.mk ?_
      go_simp
      exact HK.out _ (Below.refl _ _)
    -- 4: Op.fieldAddr 37 (Operand.tmp 3) 1
    apply ls_val
    · intro x w' hb hpre K hK
      have hc := (bcell hb).1
      clear hpre
      simp only [frL, Act.put, List.setIfInBounds_toArray, List.set_cons_zero, List.set_cons_succ, Nat.zero_add, Nat.reduceAdd] at hK ⊢
      have HK := Lib.hid hK
      clear hK
      refine Held.mk ?_
      go_simp
      exact HK.out _ (Below.refl _ _)
    -- 5: Op.load 35 (Operand.tmp 14)
    apply ls_val
    · intro x w' hb hpre K hK
      have hc := (bcell hb).1
      simp [preds, Region.binds, phi, MP.val, MP.box, MP.row] at hpre
      simp only [frL, Act.put, List.setIfInBounds_toArray, List.set_cons_zero, List.set_cons_succ, Nat.zero_add, Nat.reduceAdd, hpre] at hK ⊢
      have HK := Lib.hid hK
      clear hK
      refine Held.mk ?_
      go_simp
      exact HK.out _ (Below.refl _ _)
    -- 6: Op.call { callee := Callee.value (Operand.func 79), args := #[Operand.tmp 13, Operand.tmp 
    refine ls_gen (MP.drow w3.heap.size L) ?_ ?_
    · intro x w' hb hpre K hK
      simp [preds, Region.binds, phi, MP.val] at hpre
      simp only [frL, Act.put, List.setIfInBounds_toArray, List.set_cons_zero, List.set_cons_succ, Nat.zero_add, Nat.reduceAdd, hpre] at hK ⊢
      have HK := Lib.hid hK
      clear hK
      refine Held.mk ?_
      go_simp
      refine (PL.out w' (HI.out.below (hw.trans (hb.mono hw.size)) (Nat.le_refl _)) (HJ.out.below (hw.trans (hb.mono hw.size)) (Nat.le_refl _))).mono ?_
      rintro e w1 ⟨v, rfl, hO, hb1⟩
      dsimp only
      exact HK.out v w1 ((hO.drow hLl).mono hb.size) hb1
    -- 7: Op.build 37 #[(0, Operand.tmp 11), (1, Operand.tmp 16)]
    refine ls_gen (MP.big w3.heap.size n1 L) ?_ ?_
    · intro x w' hb hpre K hK
      simp [preds, Region.binds, phi, MP.val, MP.drow] at hpre
      obtain ⟨hp1, g, cc, hp2, hp3⟩ := hpre
      simp only [frL, Act.put, List.setIfInBounds_toArray, List.set_cons_zero, List.set_cons_succ, Nat.zero_add, Nat.reduceAdd, hp1, hp2] at hK ⊢
      have HK := Lib.hid hK
      clear hK
      refine Held.mk ?_
      go_simp
      exact HK.out (.agg #[.bool n1, .slice g L.length cc]) w' ⟨_, rfl, g, cc, rfl, hp3⟩ (Below.refl _ _)
    intro x w' hb hp
    simp only [List.cons_append, List.nil_append, phis, MP.val, MP.box, MP.row, frL, Act.put, List.setIfInBounds_toArray, List.set_cons_zero, List.set_cons_succ, Nat.zero_add, Nat.reduceAdd] at hp ⊢
    obtain ⟨h0, h1, h2, h3, h4, h5, h6, h7, -⟩ := hp
    simp only [h0, h1, h2, h3, h4, h5]
    clear h0 h1 h2 h3 h4 h5
    obtain ⟨u, hx7, hD⟩ : ∃ u, x 7 = .agg #[.bool n1, u] ∧ DRow w' w3.heap.size u L := h7
    have hD' := hD
    obtain ⟨g, cc, hu, -⟩ := hD'
    subst hu
    simp only [hx7]
    clear hx7
    have F3 : Blk w' (w.heap.size + 1 + 1) #[.bool false, .slice none 0 0] 37 := E2.below hb k2
    have hw1 : Below w.heap.size w w' := hw.trans (hb.mono hw.size)
    have l2 : w.heap.size + 1 + 1 < w'.heap.size := F3.lt
    clear c00 c01 f00 f01 c10 c11 f10 f11 E0 E1 E2 hb hw
    obtain ⟨c20, c21, f20, f21⟩ := F3.two
    go_wp2_with fail
    refine bodyPost_ret (v := .agg #[.bool n1, .slice g L.length cc]) (by simp [results, Tryz.results51, go_sem, c20, c21, f20, f21]) rfl ⟨_, rfl, ?_, ?_⟩
    · exact (((hD.other (by simpa using k2) _).other (by simpa using k2) _).mono (by omega))
    · go_grown
      all_goals first | exact hw1 | exact hw1.size | omega
  · simp only [Bool.false_eq_true, if_false]
    cases e2 : decide (0 ≤ cmpL xs ys)
    · have hlen := cmpL_len' (by simpa using e2)
      have MI := Lib.hid (fun w' h1 h2 => dminus_any b a d c ys xs w' h1 h2 gy gx hm hl hlen)
      obtain ⟨L, hL⟩ : ∃ L, L = trimL (minusL ys xs 0) := ⟨_, rfl⟩
      simp only [if_true, Bool.false_eq_true, if_false]
      rw [← hL] at MI ⊢
      obtain ⟨cv, hcv⟩ : ∃ cv, cmpL xs ys = cv := ⟨_, rfl⟩
      rw [hcv] at CM e2
      clear hI hJ gx gy hpl hL PL hcv
      go_enter Tryz.func51, Tryz.ntmps51
      go_upto_region 3 with fail
      refine wp_worldN ?_
      intro w3 hw3
      have E0 : Blk w3 w.heap.size #[.bool n1, .slice a xs.length c] 37 := by rw [hw3]; exact Blk.alloc (Blk.alloc (Blk.here rfl rfl) _) _
      have E1 : Blk w3 (w.heap.size + 1) #[.bool n2, .slice b ys.length d] 37 := by rw [hw3]; exact Blk.alloc (Blk.here rfl (by simp)) _
      have E2 : Blk w3 (w.heap.size + 1 + 1) #[.bool false, .slice none 0 0] 37 := by rw [hw3]; exact Blk.here rfl (by simp)
      have hw : Below w.heap.size w w3 := by rw [hw3]; go_grown
      clear hw3
      have k0 : w.heap.size < w3.heap.size := E0.lt
      have k1 : w.heap.size + 1 < w3.heap.size := E1.lt
      have k2 : w.heap.size + 1 + 1 < w3.heap.size := E2.lt
      obtain ⟨c00, c01, f00, f01⟩ := E0.two
      obtain ⟨c10, c11, f10, f11⟩ := E1.two
      go_wp2_with (go_at_call 80; refine (CM.out _ (HI.out.below hw (Nat.le_refl _)) (HJ.out.below hw (Nat.le_refl _))).mono ?_; rintro e w4 ⟨rfl, hb4⟩
                   have F0 := E0.below hb4 k0
                   have F1 := E1.below hb4 k1
                   have F2 := E2.below hb4 k2
                   have hw4 : Below w.heap.size w w4 := hw.trans (hb4.mono hw.size)
                   clear c00 c01 f00 f01 c10 c11 f10 f11 E0 E1 E2 hb4 k0 k1 k2
                   have k0 : w.heap.size < w4.heap.size := F0.lt
                   have k1 : w.heap.size + 1 < w4.heap.size := F1.lt
                   have k2 : w.heap.size + 1 + 1 < w4.heap.size := F2.lt
                   obtain ⟨c00, c01, f00, f01⟩ := F0.two
                   obtain ⟨c10, c11, f10, f11⟩ := F1.two)
      clear hw
      have hw := hw4
      have E2 := F2
      refine region_steps 8 [some 32, some 33, some 34, some 35, some 36, some 37, some 38, some 39] (by kernel_rfl) (by kernel_rfl) ?_
      -- 0: Op.fieldAddr 37 (Operand.tmp 3) 0
      apply ls_val
      · intro x w' hb hpre K hK
        have hc := (bcell hb).1
        clear hpre
        simp only [frL, Act.put, List.setIfInBounds_toArray, List.set_cons_zero, List.set_cons_succ, Nat.zero_add, Nat.reduceAdd] at hK ⊢
        have HK := Lib.hid hK
        clear hK
        refine Held.mk ?_
        go_simp
        exact HK.out _ (Below.refl _ _)
      -- 1: Op.load 4 (Operand.tmp 32)
      apply ls_val
      · intro x w' hb hpre K hK
        have hc := (bcell hb).1
        simp [preds, Region.binds, phi, MP.val, MP.box, MP.row] at hpre
        simp only [frL, Act.put, List.setIfInBounds_toArray, List.set_cons_zero, List.set_cons_succ, Nat.zero_add, Nat.reduceAdd, hpre] at hK ⊢
        have HK := Lib.hid hK
        clear hK
        refine Held.mk ?_
        go_simp
        exact HK.out _ (Below.refl _ _)
      -- 2: Op.fieldAddr 37 (Operand.tmp 3) 1
      apply ls_val
      · intro x w' hb hpre K hK
        have hc := (bcell hb).1
        clear hpre
        simp only [frL, Act.put, List.setIfInBounds_toArray, List.set_cons_zero, List.set_cons_succ, Nat.zero_add, Nat.reduceAdd] at hK ⊢
        have HK := Lib.hid hK
        clear hK
        refine Held.mk ?_
        go_simp
        exact HK.out _ (Below.refl _ _)
      -- 3: Op.load 35 (Operand.tmp 34)
      apply ls_val
      · intro x w' hb hpre K hK
        have hc := (bcell hb).1
        simp [preds, Region.binds, phi, MP.val, MP.box, MP.row] at hpre
        simp only [frL, Act.put, List.setIfInBounds_toArray, List.set_cons_zero, List.set_cons_succ, Nat.zero_add, Nat.reduceAdd, hpre] at hK ⊢
        have HK := Lib.hid hK
        clear hK
        refine Held.mk ?_
        go_simp
        exact HK.out _ (Below.refl _ _)
      -- 4: Op.fieldAddr 37 (Operand.tmp 2) 1
      apply ls_val
      · intro x w' hb hpre K hK
        have hc := (bcell hb).1
        clear hpre
        simp only [frL, Act.put, List.setIfInBounds_toArray, List.set_cons_zero, List.set_cons_succ, Nat.zero_add, Nat.reduceAdd] at hK ⊢
        have HK := Lib.hid hK
        clear hK
        refine Held.mk ?_
        go_simp
        exact HK.out _ (Below.refl _ _)
      -- 5: Op.load 35 (Operand.tmp 36)
      apply ls_val
      · intro x w' hb hpre K hK
        have hc := (bcell hb).1
        simp [preds, Region.binds, phi, MP.val, MP.box, MP.row] at hpre
        simp only [frL, Act.put, List.setIfInBounds_toArray, List.set_cons_zero, List.set_cons_succ, Nat.zero_add, Nat.reduceAdd, hpre] at hK ⊢
        have HK := Lib.hid hK
        clear hK
        refine Held.mk ?_
        go_simp
        exact HK.out _ (Below.refl _ _)
      -- 6: Op.call { callee := Callee.value (Operand.func 81), args := #[Operand.tmp 35, Operand.tmp 
      refine ls_gen (MP.drow w4.heap.size L) ?_ ?_
      · intro x w' hb hpre K hK
        simp [preds, Region.binds, phi, MP.val] at hpre
        simp only [frL, Act.put, List.setIfInBounds_toArray, List.set_cons_zero, List.set_cons_succ, Nat.zero_add, Nat.reduceAdd, hpre] at hK ⊢
        have HK := Lib.hid hK
        clear hK
        refine Held.mk ?_
        go_simp
        refine (MI.out w' (HJ.out.below (hw.trans (hb.mono hw.size)) (Nat.le_refl _)) (HI.out.below (hw.trans (hb.mono hw.size)) (Nat.le_refl _))).mono ?_
        rintro e w1 ⟨v, rfl, hO, hb1⟩
        dsimp only
        exact HK.out v w1 (hO.mono hb.size) hb1
      -- 7: Op.build 37 #[(0, Operand.tmp 33), (1, Operand.tmp 38)]
      refine ls_gen (MP.big w4.heap.size n2 L) ?_ ?_
      · intro x w' hb hpre K hK
        simp [preds, Region.binds, phi, MP.val, MP.drow] at hpre
        obtain ⟨hp1, g, cc, hp2, hp3⟩ := hpre
        simp only [frL, Act.put, List.setIfInBounds_toArray, List.set_cons_zero, List.set_cons_succ, Nat.zero_add, Nat.reduceAdd, hp1, hp2] at hK ⊢
        have HK := Lib.hid hK
        clear hK
        refine Held.mk ?_
        go_simp
        exact HK.out (.agg #[.bool n2, .slice g L.length cc]) w' ⟨_, rfl, g, cc, rfl, hp3⟩ (Below.refl _ _)
      intro x w' hb hp
      simp only [List.cons_append, List.nil_append, phis, MP.val, MP.box, MP.row, frL, Act.put, List.setIfInBounds_toArray, List.set_cons_zero, List.set_cons_succ, Nat.zero_add, Nat.reduceAdd] at hp ⊢
      obtain ⟨h0, h1, h2, h3, h4, h5, h6, h7, -⟩ := hp
      simp only [h0, h1, h2, h3, h4, h5]
      clear h0 h1 h2 h3 h4 h5
      obtain ⟨u, hx7, hD⟩ : ∃ u, x 7 = .agg #[.bool n2, u] ∧ DRow w' w4.heap.size u L := h7
      have hD' := hD
      obtain ⟨g, cc, hu, -⟩ := hD'
      subst hu
      simp only [hx7]
      clear hx7
      have F3 : Blk w' (w.heap.size + 1 + 1) #[.bool false, .slice none 0 0] 37 := E2.below hb k2
      have hw1 : Below w.heap.size w w' := hw.trans (hb.mono hw.size)
      have l2 : w.heap.size + 1 + 1 < w'.heap.size := F3.lt
      clear c00 c01 f00 f01 c10 c11 f10 f11 F0 F1 F2 E2 hb hw hw4
      obtain ⟨c20, c21, f20, f21⟩ := F3.two
      go_wp2_with fail
      refine bodyPost_ret (v := .agg #[.bool n2, .slice g L.length cc]) (by simp [results, Tryz.results51, go_sem, c20, c21, f20, f21]) rfl ⟨_, rfl, ?_, ?_⟩
      · exact (((hD.other (by simpa using k2) _).other (by simpa using k2) _).mono (by omega))
      · go_grown
        all_goals first | exact hw1 | exact hw1.size | omega
    · have hlen := cmpL_len (by simpa using e2)
      have MI := Lib.hid (fun w' h1 h2 => dminus_any a b c d xs ys w' h1 h2 gx gy hl hm hlen)
      obtain ⟨L, hL⟩ : ∃ L, L = trimL (minusL xs ys 0) := ⟨_, rfl⟩
      simp only [if_true, Bool.false_eq_true, if_false]
      rw [← hL] at MI ⊢
      obtain ⟨cv, hcv⟩ : ∃ cv, cmpL xs ys = cv := ⟨_, rfl⟩
      rw [hcv] at CM e2
      clear hI hJ gx gy hpl hL PL hcv
      go_enter Tryz.func51, Tryz.ntmps51
      go_upto_region 3 with fail
      refine wp_worldN ?_
      intro w3 hw3
      have E0 : Blk w3 w.heap.size #[.bool n1, .slice a xs.length c] 37 := by rw [hw3]; exact Blk.alloc (Blk.alloc (Blk.here rfl rfl) _) _
      have E1 : Blk w3 (w.heap.size + 1) #[.bool n2, .slice b ys.length d] 37 := by rw [hw3]; exact Blk.alloc (Blk.here rfl (by simp)) _
      have E2 : Blk w3 (w.heap.size + 1 + 1) #[.bool false, .slice none 0 0] 37 := by rw [hw3]; exact Blk.here rfl (by simp)
      have hw : Below w.heap.size w w3 := by rw [hw3]; go_grown
      clear hw3
      have k0 : w.heap.size < w3.heap.size := E0.lt
      have k1 : w.heap.size + 1 < w3.heap.size := E1.lt
      have k2 : w.heap.size + 1 + 1 < w3.heap.size := E2.lt
      obtain ⟨c00, c01, f00, f01⟩ := E0.two
      obtain ⟨c10, c11, f10, f11⟩ := E1.two
      go_wp2_with (go_at_call 80; refine (CM.out _ (HI.out.below hw (Nat.le_refl _)) (HJ.out.below hw (Nat.le_refl _))).mono ?_; rintro e w4 ⟨rfl, hb4⟩
                   have F0 := E0.below hb4 k0
                   have F1 := E1.below hb4 k1
                   have F2 := E2.below hb4 k2
                   have hw4 : Below w.heap.size w w4 := hw.trans (hb4.mono hw.size)
                   clear c00 c01 f00 f01 c10 c11 f10 f11 E0 E1 E2 hb4 k0 k1 k2
                   have k0 : w.heap.size < w4.heap.size := F0.lt
                   have k1 : w.heap.size + 1 < w4.heap.size := F1.lt
                   have k2 : w.heap.size + 1 + 1 < w4.heap.size := F2.lt
                   obtain ⟨c00, c01, f00, f01⟩ := F0.two
                   obtain ⟨c10, c11, f10, f11⟩ := F1.two)
      clear hw
      have hw := hw4
      have E2 := F2
      refine region_steps 8 [some 24, some 25, some 26, some 27, some 28, some 29, some 30, some 31] (by kernel_rfl) (by kernel_rfl) ?_
      -- 0: Op.fieldAddr 37 (Operand.tmp 2) 0
      apply ls_val
      · intro x w' hb hpre K hK
        have hc := (bcell hb).1
        clear hpre
        simp only [frL, Act.put, List.setIfInBounds_toArray, List.set_cons_zero, List.set_cons_succ, Nat.zero_add, Nat.reduceAdd] at hK ⊢
        have HK := Lib.hid hK
        clear hK
        refine Held.mk ?_
        go_simp
        exact HK.out _ (Below.refl _ _)
      -- 1: Op.load 4 (Operand.tmp 24)
      apply ls_val
      · intro x w' hb hpre K hK
        have hc := (bcell hb).1
        simp [preds, Region.binds, phi, MP.val, MP.box, MP.row] at hpre
        simp only [frL, Act.put, List.setIfInBounds_toArray, List.set_cons_zero, List.set_cons_succ, Nat.zero_add, Nat.reduceAdd, hpre] at hK ⊢
        have HK := Lib.hid hK
        clear hK
        refine Held.mk ?_
        go_simp
        exact HK.out _ (Below.refl _ _)
      -- 2: Op.fieldAddr 37 (Operand.tmp 2) 1
      apply ls_val
      · intro x w' hb hpre K hK
        have hc := (bcell hb).1
        clear hpre
        simp only [frL, Act.put, List.setIfInBounds_toArray, List.set_cons_zero, List.set_cons_succ, Nat.zero_add, Nat.reduceAdd] at hK ⊢
        have HK := Lib.hid hK
        clear hK
        refine Held.mk ?_
        go_simp
        exact HK.out _ (Below.refl _ _)
      -- 3: Op.load 35 (Operand.tmp 26)
      apply ls_val
      · intro x w' hb hpre K hK
        have hc := (bcell hb).1
        simp [preds, Region.binds, phi, MP.val, MP.box, MP.row] at hpre
        simp only [frL, Act.put, List.setIfInBounds_toArray, List.set_cons_zero, List.set_cons_succ, Nat.zero_add, Nat.reduceAdd, hpre] at hK ⊢
        have HK := Lib.hid hK
        clear hK
        refine Held.mk ?_
        go_simp
        exact HK.out _ (Below.refl _ _)
      -- 4: Op.fieldAddr 37 (Operand.tmp 3) 1
      apply ls_val
      · intro x w' hb hpre K hK
        have hc := (bcell hb).1
        clear hpre
        simp only [frL, Act.put, List.setIfInBounds_toArray, List.set_cons_zero, List.set_cons_succ, Nat.zero_add, Nat.reduceAdd] at hK ⊢
        have HK := Lib.hid hK
        clear hK
        refine Held.mk ?_
        go_simp
        exact HK.out _ (Below.refl _ _)
      -- 5: Op.load 35 (Operand.tmp 28)
      apply ls_val
      · intro x w' hb hpre K hK
        have hc := (bcell hb).1
        simp [preds, Region.binds, phi, MP.val, MP.box, MP.row] at hpre
        simp only [frL, Act.put, List.setIfInBounds_toArray, List.set_cons_zero, List.set_cons_succ, Nat.zero_add, Nat.reduceAdd, hpre] at hK ⊢
        have HK := Lib.hid hK
        clear hK
        refine Held.mk ?_
        go_simp
        exact HK.out _ (Below.refl _ _)
      -- 6: Op.call { callee := Callee.value (Operand.func 81), args := #[Operand.tmp 27, Operand.tmp 
      refine ls_gen (MP.drow w4.heap.size L) ?_ ?_
      · intro x w' hb hpre K hK
        simp [preds, Region.binds, phi, MP.val] at hpre
        simp only [frL, Act.put, List.setIfInBounds_toArray, List.set_cons_zero, List.set_cons_succ, Nat.zero_add, Nat.reduceAdd, hpre] at hK ⊢
        have HK := Lib.hid hK
        clear hK
        refine Held.mk ?_
        go_simp
        refine (MI.out w' (HI.out.below (hw.trans (hb.mono hw.size)) (Nat.le_refl _)) (HJ.out.below (hw.trans (hb.mono hw.size)) (Nat.le_refl _))).mono ?_
        rintro e w1 ⟨v, rfl, hO, hb1⟩
        dsimp only
        exact HK.out v w1 (hO.mono hb.size) hb1
      -- 7: Op.build 37 #[(0, Operand.tmp 25), (1, Operand.tmp 30)]
      refine ls_gen (MP.big w4.heap.size n1 L) ?_ ?_
      · intro x w' hb hpre K hK
        simp [preds, Region.binds, phi, MP.val, MP.drow] at hpre
        obtain ⟨hp1, g, cc, hp2, hp3⟩ := hpre
        simp only [frL, Act.put, List.setIfInBounds_toArray, List.set_cons_zero, List.set_cons_succ, Nat.zero_add, Nat.reduceAdd, hp1, hp2] at hK ⊢
        have HK := Lib.hid hK
        clear hK
        refine Held.mk ?_
        go_simp
        exact HK.out (.agg #[.bool n1, .slice g L.length cc]) w' ⟨_, rfl, g, cc, rfl, hp3⟩ (Below.refl _ _)
      intro x w' hb hp
      simp only [List.cons_append, List.nil_append, phis, MP.val, MP.box, MP.row, frL, Act.put, List.setIfInBounds_toArray, List.set_cons_zero, List.set_cons_succ, Nat.zero_add, Nat.reduceAdd] at hp ⊢
      obtain ⟨h0, h1, h2, h3, h4, h5, h6, h7, -⟩ := hp
      simp only [h0, h1, h2, h3, h4, h5]
      clear h0 h1 h2 h3 h4 h5
      obtain ⟨u, hx7, hD⟩ : ∃ u, x 7 = .agg #[.bool n1, u] ∧ DRow w' w4.heap.size u L := h7
      have hD' := hD
      obtain ⟨g, cc, hu, -⟩ := hD'
      subst hu
      simp only [hx7]
      clear hx7
      have F3 : Blk w' (w.heap.size + 1 + 1) #[.bool false, .slice none 0 0] 37 := E2.below hb k2
      have hw1 : Below w.heap.size w w' := hw.trans (hb.mono hw.size)
      have l2 : w.heap.size + 1 + 1 < w'.heap.size := F3.lt
      clear c00 c01 f00 f01 c10 c11 f10 f11 F0 F1 F2 E2 hb hw hw4
      obtain ⟨c20, c21, f20, f21⟩ := F3.two
      go_wp2_with fail
      refine bodyPost_ret (v := .agg #[.bool n1, .slice g L.length cc]) (by simp [results, Tryz.results51, go_sem, c20, c21, f20, f21]) rfl ⟨_, rfl, ?_, ?_⟩
      · exact (((hD.other (by simpa using k2) _).other (by simpa using k2) _).mono (by omega))
      · go_grown
        all_goals first | exact hw1 | exact hw1.size | omega
end Go.Proofs.YtgbghbeolndfiaaGreatDoor

/- The document's order of two numbers. -/
import Derived.Test.YtgbghbeolndfiaaGreatDoorDiO
set_option linter.unusedSimpArgs false
set_option linter.unusedVariables false
set_option linter.constructorNameAsVariable false
namespace Go.Proofs.YtgbghbeolndfiaaGreatDoor
open Go.RowKit

theorem cmp_sgn {neg : Bool} {L : List Int} (h : Dg L) (hn : Nr L) {n k : Int} {s t : Nat} (hz : sgnD neg L = lvl n s t - lvl k t s) : cmpF n s k t = if (trimL L).length == 0 then 0 else if neg then -1 else 1 := by
  rw [trimL_id h hn]
  unfold cmpF
  rw [← hz, sgnD_val h]
  have h0 := dval_nonneg h
  cases L with
  | nil =>
    have : dval ([] : List Int) = 0 := rfl
    rw [this]
    cases neg <;> simp
  | cons d l =>
    have hp := dval_pos h hn (by simp)
    cases neg
    · simp only [Bool.false_eq_true, if_false]
      rw [if_neg (by simp; omega), if_neg (by simp; omega)]
      simp
    · simp only [if_true]
      rw [if_neg (by simp; omega), if_pos (by simp; omega)]
      simp
theorem bigout_drow {w w' : World} {g : Option Addr} {c base : Nat} {L : List Int} (h1 : IRow w' g L.length L) (h2 : L.length ≤ c) (h3 : g = none → c = 0) (h4 : 0 < L.length → ∀ b o, g = some ⟨b, o, none⟩ → w.heap.size ≤ b) (hb : base ≤ w.heap.size) : DRow w' base (.slice g L.length c) L :=
  ⟨g, c, rfl, h1, h2, h3, fun h b o e => Nat.le_trans hb (h4 h b o e)⟩
set_option maxRecDepth 100000 in
set_option maxHeartbeats 1000000 in
theorem rcmp_any (n k : Int) (s t : Nat) (ha : Rt n s) (hB : Rt k t) (w : World) : Calls Tryz.prog 30 #[.int .i64 n, .int .i64 (s : Int), .int .i64 k, .int .i64 (t : Int)] w fun e w' =>
    e = .returned (.int .i64 (cmpF n s k t)) ∧ Below w.heap.size w w' := by
  obtain ⟨na, nb, gX, nX, lX⟩ := rt_digs ha
  obtain ⟨ka, kb, gY, nY, lY⟩ := rt_digs hB
  have s9 : s ≤ 9 := by have := ha.s9; omega
  have t9 : t ≤ 9 := by have := hB.s9; omega
  clear ha hB
  obtain ⟨M, hM⟩ : ∃ M, M = max s t := ⟨_, rfl⟩
  have hM9 : M ≤ 9 := by omega
  have hmax : max (s : Int) (t : Int) = (M : Int) := by omega
  have hmax2 : max s t = M := hM.symm
  have sM : s ≤ M := by omega
  have tM : t ≤ M := by omega
  have HM := Lib.hid hM
  clear hM
  have q1 : ((M - s : Nat) : Int) = (M : Int) - (s : Int) := by omega
  have q2 : ((M - t : Nat) : Int) = (M : Int) - (t : Int) := by omega
  have j1 : IntKind.i64.wrap ((M : Int) - (s : Int)) = (M : Int) - (s : Int) := IntWalk.i64_in _ (by omega)
  have j2 : IntKind.i64.wrap ((M : Int) - (t : Int)) = (M : Int) - (t : Int) := IntWalk.i64_in _ (by omega)
  have vX := sgnD_digs n
  have vY := sgnD_digs k
  have OA := Lib.hid (fun w => of_big n na nb w)
  have OB := Lib.hid (fun w => of_big k ka kb w)
  have hk0 : dval (digs k.natAbs) = (k.natAbs : Int) := (digs_spec _).1
  obtain ⟨b1, hb1⟩ : ∃ b1, b1 = decide (n < 0) := ⟨_, rfl⟩
  obtain ⟨b2, hb2⟩ : ∃ b2, b2 = decide (k < 0) := ⟨_, rfl⟩
  obtain ⟨X, hX⟩ : ∃ X, X = digs n.natAbs := ⟨_, rfl⟩
  obtain ⟨Y, hY⟩ : ∃ Y, Y = digs k.natAbs := ⟨_, rfl⟩
  rw [← hb1, ← hX] at OA vX
  rw [← hb2, ← hY] at OB vY
  rw [← hX] at gX nX lX
  rw [← hY] at gY nY lY hk0
  clear hb1 hb2 hX hY na nb ka kb
  have uX := sgnD_up (neg := b1) gX nX (M - s)
  have uY := sgnD_up (neg := b2) gY nY (M - t)
  obtain ⟨-, gU, nU, lU⟩ := upL_spec gX nX (M - s)
  obtain ⟨vV, gV, nV, lV⟩ := upL_spec gY nY (M - t)
  have UX := Lib.hid (fun g c w h h1 h2 => up_big b1 g c X (M - s) w h h1 h2 (by omega) (by omega))
  have UY := Lib.hid (fun g c w h h1 h2 => up_big b2 g c Y (M - t) w h h1 h2 (by omega) (by omega))
  rw [vX] at uX
  rw [vY] at uY
  obtain ⟨U, hU⟩ : ∃ U, U = upL X (M - s) := ⟨_, rfl⟩
  obtain ⟨V, hV⟩ : ∃ V, V = upL Y (M - t) := ⟨_, rfl⟩
  rw [← hU] at uX gU nU lU UX
  rw [← hV] at uY gV nV lV UY vV
  have lU2 : U.length ≤ 28 := by omega
  have lV2 : V.length ≤ 28 := by omega
  simp only [q1] at UX
  simp only [q2] at UY
  clear hU hV lU lV q1 q2
  have AD := Lib.hid (fun a b c d w h1 h2 => add_big b1 (!b2) a b c d U V w h1 h2 gU gV (by omega) (by omega))
  obtain ⟨hs1, gL, nL, lL⟩ := addD_spec b1 (!b2) gU gV nU nV
  rw [uX, sgnD_not gV, uY] at hs1
  have hlv := lvl_nat (n := n) (k := k) HM.out
  obtain ⟨nl, hnl⟩ : ∃ nl, nl = (addD b1 U (!b2) V).1 := ⟨_, rfl⟩
  obtain ⟨L, hL⟩ : ∃ L, L = (addD b1 U (!b2) V).2 := ⟨_, rfl⟩
  rw [← hnl, ← hL] at AD hs1
  rw [← hL] at gL nL lL
  have hz : sgnD nl L = lvl n s t - lvl k t s := by rw [hs1, hlv.1, hlv.2.1, Int.sub_eq_add_neg]
  have hcm := cmp_sgn gL nL hz
  have hTl : (trimL L).length ≤ L.length := by rw [trimL_id gL nL]; exact Nat.le_refl _
  obtain ⟨T, hT⟩ : ∃ T, T = trimL L := ⟨_, rfl⟩
  have TR := Lib.hid (fun g c w h h1 h2 => trim_any g c L w h h1 h2 (by omega))
  rw [← hT] at hcm hTl
  simp only [← hT] at TR
  rw [hcm]
  clear vX vY uX uY gX gY gU gV gL nX nY nU nV vV hk0 hs1 nL hnl hL hz hcm hT hlv
  cases eT : (T.length == 0)
  rotate_left
  · simp only [if_true]
    have hw : Below w.heap.size w w := Below.refl _ _
    go_enter Tryz.func30, Tryz.ntmps30
    go_upto_region 4 with (first
      | (go_at_call 15
         with_reducible refine (OB.out _).mono ?_
         rintro e w1 ⟨g2, c2, rfl, IY, hc2, hn2, -, hb⟩
         have hs := hb
         have hw1 : Below w.heap.size w w1 := hw.trans (hs.mono hw.size)
         have Yw1 := Lib.hid IY
         clear IY
         clear hb hs)
      | (go_at_call 50
         with_reducible refine (UY.out g2 c2 _ Yw1.out hc2 hn2).mono ?_
         rintro e w2 ⟨g4, c4, rfl, IV, hc4, hn4, -, hb⟩
         have hs := hb
         have hw2 : Below w.heap.size w w2 := hw1.trans (hs.mono hw1.size)
         have Vw2 := Lib.hid IV
         clear IV
         clear hb hs Yw1))
    refine wp_worldD ?_
    intro w3 hw3e
    have Dw3 : Blk w3 w2.heap.size #[.bool (!b2), .slice g4 V.length c4] 37 := by rw [hw3e]; exact Blk.here rfl rfl
    have hw3 : Below w.heap.size w w3 := by rw [hw3e]; exact hw2.alloc hw2.size _
    have Vw3 := Lib.hid (Vw2.out.below (show Below w2.heap.size w2 w3 from by rw [hw3e]; exact (Below.refl _ _).alloc (Nat.le_refl _) _) (Nat.le_refl _))
    clear hw3e Vw2
    obtain ⟨cD0, cD1, fD0, fD1⟩ := Dw3.two
    have kDw3 : w2.heap.size < w3.heap.size := Dw3.lt
    refine region_steps 9 [some 25, some 26, some 27, some 28, some 29, some 30, some 31, some 32, some 11] (by kernel_rfl) (by kernel_rfl) ?_
    -- 0: Op.move (Operand.tmp 0)
    apply ls_val
    · intro x w' hb hpre K hK
      have hc := (bcell hb).1
      clear hpre
      simp only [frL, Act.put, List.setIfInBounds_toArray, List.set_cons_zero, List.set_cons_succ, Nat.zero_add, Nat.reduceAdd] at hK ⊢
      have HK := Lib.hid hK
      clear hK
      refine Held.mk ?_
      go_simp
      exact HK.out _ (Below.refl _ _)
    -- 1: Op.call { callee := Callee.value (Operand.func 15), args := #[Operand.tmp 25], argTypes :=
    refine ls_gen (MP.big w3.heap.size b1 X) ?_ ?_
    · intro x w' hb hpre K hK
      simp [preds, Region.binds, phi, MP.val, MP.box, MP.big] at hpre
      simp only [frL, Act.put, List.setIfInBounds_toArray, List.set_cons_zero, List.set_cons_succ, Nat.zero_add, Nat.reduceAdd, hpre] at hK ⊢
      have HK := Lib.hid hK
      clear hK
      refine Held.mk ?_
      go_simp
      (with_reducible refine (OA.out _).mono ?_)
      rintro e w1 ⟨g, c, rfl, hI, hc, hn, hgb, hb1⟩
      dsimp only
      exact HK.out _ _ ⟨_, rfl, bigout_drow hI hc hn hgb hb.size⟩ hb1
    -- 2: Op.move (Operand.tmp 9)
    apply ls_val
    · intro x w' hb hpre K hK
      have hc := (bcell hb).1
      clear hpre
      simp only [frL, Act.put, List.setIfInBounds_toArray, List.set_cons_zero, List.set_cons_succ, Nat.zero_add, Nat.reduceAdd] at hK ⊢
      have HK := Lib.hid hK
      clear hK
      refine Held.mk ?_
      go_simp
      exact HK.out _ (Below.refl _ _)
    -- 3: Op.move (Operand.tmp 1)
    apply ls_val
    · intro x w' hb hpre K hK
      have hc := (bcell hb).1
      clear hpre
      simp only [frL, Act.put, List.setIfInBounds_toArray, List.set_cons_zero, List.set_cons_succ, Nat.zero_add, Nat.reduceAdd] at hK ⊢
      have HK := Lib.hid hK
      clear hK
      refine Held.mk ?_
      go_simp
      exact HK.out _ (Below.refl _ _)
    -- 4: Op.binOp BinOp.sub 3 (Operand.tmp 27) (Operand.tmp 28) 3
    apply ls_val
    · intro x w' hb hpre K hK
      have hc := (bcell hb).1
      simp [preds, Region.binds, phi, MP.val, MP.box, MP.row] at hpre
      simp only [frL, Act.put, List.setIfInBounds_toArray, List.set_cons_zero, List.set_cons_succ, Nat.zero_add, Nat.reduceAdd, hpre] at hK ⊢
      have HK := Lib.hid hK
      clear hK
      refine Held.mk ?_
      go_simp
      exact HK.out _ (Below.refl _ _)
    -- 5: Op.call { callee := Callee.value (Operand.func 50), args := #[Operand.tmp 26, Operand.tmp 
    refine ls_gen (MP.big w3.heap.size b1 U) ?_ ?_
    · intro x w' hb hpre K hK
      simp [preds, Region.binds, phi, MP.val, MP.box, MP.big] at hpre
      obtain ⟨⟨u, hp1, g, c, hu, hI, hc, hn, -⟩, hp4⟩ := hpre
      subst hu
      simp only [frL, Act.put, List.setIfInBounds_toArray, List.set_cons_zero, List.set_cons_succ, Nat.zero_add, Nat.reduceAdd, hp1, hp4] at hK ⊢
      have HK := Lib.hid hK
      clear hK
      refine Held.mk ?_
      go_simp
      refine (UX.out g c w' hI hc hn).mono ?_
      rintro e w1 ⟨g', c', rfl, hI', hc', hn', hgb, hb1⟩
      dsimp only
      exact HK.out _ _ ⟨_, rfl, bigout_drow hI' hc' hn' hgb hb.size⟩ hb1
    -- 6: Op.load 37 (Operand.tmp 10)
    apply ls_val
    · intro x w' hb hpre K hK
      have hc := (bcell hb).1
      clear hpre
      simp only [frL, Act.put, List.setIfInBounds_toArray, List.set_cons_zero, List.set_cons_succ, Nat.zero_add, Nat.reduceAdd] at hK ⊢
      have HK := Lib.hid hK
      clear hK
      refine Held.mk ?_
      go_simp
      exact HK.out _ (Below.refl _ _)
    -- 7: Op.call { callee := Callee.value (Operand.func 51), args := #[Operand.tmp 30, Operand.tmp 
    refine ls_gen (MP.big w3.heap.size nl L) ?_ ?_
    · intro x w' hb hpre K hK
      simp [preds, Region.binds, phi, MP.val, MP.box, MP.big] at hpre
      obtain ⟨⟨u, hp5, g, c, hu, hI, hc, hn, -⟩, hp6⟩ := hpre
      subst hu
      simp only [frL, Act.put, List.setIfInBounds_toArray, List.set_cons_zero, List.set_cons_succ, Nat.zero_add, Nat.reduceAdd, hp5, hp6] at hK ⊢
      have HK := Lib.hid hK
      clear hK
      refine Held.mk ?_
      go_simp
      refine (AD.out g g4 c c4 w' hI (Vw3.out.below hb (Nat.le_refl _))).mono ?_
      rintro e w1 ⟨g', c', rfl, hI', hc', hn', hgb, hb1⟩
      dsimp only
      exact HK.out _ _ ⟨_, rfl, bigout_drow hI' hc' hn' hgb hb.size⟩ hb1
    -- 8: Op.alloc 37
    refine ls_gen (.box w3.heap.size #[.bool false, .slice none 0 0] 37) ?_ ?_
    · intro x w' hb hpre K hK
      have hc := (bcell hb).1
      clear hpre
      simp only [frL, Act.put, List.setIfInBounds_toArray, List.set_cons_zero, List.set_cons_succ, Nat.zero_add, Nat.reduceAdd] at hK ⊢
      have HK := Lib.hid hK
      clear hK
      refine Held.mk ?_
      go_simp
      exact HK.out _ _ ⟨_, rfl, hb.size, Blk.new _ _ _⟩ ((Below.refl _ _).alloc (Nat.le_refl _) _)
    intro x w' hb hp
    simp only [List.cons_append, List.nil_append, phis, MP.val, MP.box, MP.row, frL, Act.put, List.setIfInBounds_toArray, List.set_cons_zero, List.set_cons_succ, Nat.zero_add, Nat.reduceAdd] at hp ⊢
    obtain ⟨h0, h1, h2, h3, h4, h5, h6, h7, ⟨q8, h8, hq8, hB8⟩, -⟩ := hp
    simp only [h0, h2, h3, h4, h6]
    clear h0 h2 h3 h4 h6
    obtain ⟨u, hx7, g5, c5, hu, IL, hc5, hn5, hg5⟩ : ∃ u, x 7 = .agg #[.bool nl, u] ∧ ∃ g c, u = .slice g L.length c ∧ IRow w' g L.length L ∧ L.length ≤ c ∧ (g = none → c = 0) ∧ (0 < L.length → ∀ b o, g = some ⟨b, o, none⟩ → w3.heap.size ≤ b) := h7
    subst hu
    simp only [hx7, h8]
    have hw' : Below w.heap.size w w' := hw3.trans (hb.mono hw3.size)
    have kq : q8 < w'.heap.size := hB8.lt
    obtain ⟨cq0, cq1, fq0, fq1⟩ := hB8.two
    have hwq := hw3.size
    clear h1 h5 hx7 h8 hb cD0 cD1 fD0 fD1 Dw3 Vw3 kDw3
    go_upto_region 5 with fail
    refine wp_worldD ?_
    intro w4 hw4e
    have IL4 : IRow w4 g5 L.length L := by rw [hw4e]; exact irow_bx ⟨_, _, _, _, hB8⟩ IL _ _
    have hw4 : Below w.heap.size w w4 := by rw [hw4e]; exact (hw'.setCell (by simp; omega) _).setCell (by simp; omega) _
    have B4 : Blk w4 q8 #[.bool nl, .slice g5 L.length c5] 37 := by rw [hw4e]; exact (hB8.set 0 _).set 1 _
    clear hw4e cq0 cq1 fq0 fq1
    obtain ⟨cq0, cq1, fq0, fq1⟩ := B4.two
    have kq4 : q8 < w4.heap.size := B4.lt
    go_wp2_with (go_at_call 37; with_reducible refine (TR.out g5 c5 _ IL4 hc5 hn5).mono ?_; rintro e w5 ⟨rfl, rfl⟩)
    go_returns
    exact ⟨rfl, hw4⟩
  · simp only [Bool.false_eq_true, if_false]
    have hw : Below w.heap.size w w := Below.refl _ _
    go_enter Tryz.func30, Tryz.ntmps30
    go_upto_region 4 with (first
      | (go_at_call 15
         with_reducible refine (OB.out _).mono ?_
         rintro e w1 ⟨g2, c2, rfl, IY, hc2, hn2, -, hb⟩
         have hs := hb
         have hw1 : Below w.heap.size w w1 := hw.trans (hs.mono hw.size)
         have Yw1 := Lib.hid IY
         clear IY
         clear hb hs)
      | (go_at_call 50
         with_reducible refine (UY.out g2 c2 _ Yw1.out hc2 hn2).mono ?_
         rintro e w2 ⟨g4, c4, rfl, IV, hc4, hn4, -, hb⟩
         have hs := hb
         have hw2 : Below w.heap.size w w2 := hw1.trans (hs.mono hw1.size)
         have Vw2 := Lib.hid IV
         clear IV
         clear hb hs Yw1))
    refine wp_worldD ?_
    intro w3 hw3e
    have Dw3 : Blk w3 w2.heap.size #[.bool (!b2), .slice g4 V.length c4] 37 := by rw [hw3e]; exact Blk.here rfl rfl
    have hw3 : Below w.heap.size w w3 := by rw [hw3e]; exact hw2.alloc hw2.size _
    have Vw3 := Lib.hid (Vw2.out.below (show Below w2.heap.size w2 w3 from by rw [hw3e]; exact (Below.refl _ _).alloc (Nat.le_refl _) _) (Nat.le_refl _))
    clear hw3e Vw2
    obtain ⟨cD0, cD1, fD0, fD1⟩ := Dw3.two
    have kDw3 : w2.heap.size < w3.heap.size := Dw3.lt
    refine region_steps 9 [some 25, some 26, some 27, some 28, some 29, some 30, some 31, some 32, some 11] (by kernel_rfl) (by kernel_rfl) ?_
    -- 0: Op.move (Operand.tmp 0)
    apply ls_val
    · intro x w' hb hpre K hK
      have hc := (bcell hb).1
      clear hpre
      simp only [frL, Act.put, List.setIfInBounds_toArray, List.set_cons_zero, List.set_cons_succ, Nat.zero_add, Nat.reduceAdd] at hK ⊢
      have HK := Lib.hid hK
      clear hK
      refine Held.mk ?_
      go_simp
      exact HK.out _ (Below.refl _ _)
    -- 1: Op.call { callee := Callee.value (Operand.func 15), args := #[Operand.tmp 25], argTypes :=
    refine ls_gen (MP.big w3.heap.size b1 X) ?_ ?_
    · intro x w' hb hpre K hK
      simp [preds, Region.binds, phi, MP.val, MP.box, MP.big] at hpre
      simp only [frL, Act.put, List.setIfInBounds_toArray, List.set_cons_zero, List.set_cons_succ, Nat.zero_add, Nat.reduceAdd, hpre] at hK ⊢
      have HK := Lib.hid hK
      clear hK
      refine Held.mk ?_
      go_simp
      (with_reducible refine (OA.out _).mono ?_)
      rintro e w1 ⟨g, c, rfl, hI, hc, hn, hgb, hb1⟩
      dsimp only
      exact HK.out _ _ ⟨_, rfl, bigout_drow hI hc hn hgb hb.size⟩ hb1
    -- 2: Op.move (Operand.tmp 9)
    apply ls_val
    · intro x w' hb hpre K hK
      have hc := (bcell hb).1
      clear hpre
      simp only [frL, Act.put, List.setIfInBounds_toArray, List.set_cons_zero, List.set_cons_succ, Nat.zero_add, Nat.reduceAdd] at hK ⊢
      have HK := Lib.hid hK
      clear hK
      refine Held.mk ?_
      go_simp
      exact HK.out _ (Below.refl _ _)
    -- 3: Op.move (Operand.tmp 1)
    apply ls_val
    · intro x w' hb hpre K hK
      have hc := (bcell hb).1
      clear hpre
      simp only [frL, Act.put, List.setIfInBounds_toArray, List.set_cons_zero, List.set_cons_succ, Nat.zero_add, Nat.reduceAdd] at hK ⊢
      have HK := Lib.hid hK
      clear hK
      refine Held.mk ?_
      go_simp
      exact HK.out _ (Below.refl _ _)
    -- 4: Op.binOp BinOp.sub 3 (Operand.tmp 27) (Operand.tmp 28) 3
    apply ls_val
    · intro x w' hb hpre K hK
      have hc := (bcell hb).1
      simp [preds, Region.binds, phi, MP.val, MP.box, MP.row] at hpre
      simp only [frL, Act.put, List.setIfInBounds_toArray, List.set_cons_zero, List.set_cons_succ, Nat.zero_add, Nat.reduceAdd, hpre] at hK ⊢
      have HK := Lib.hid hK
      clear hK
      refine Held.mk ?_
      go_simp
      exact HK.out _ (Below.refl _ _)
    -- 5: Op.call { callee := Callee.value (Operand.func 50), args := #[Operand.tmp 26, Operand.tmp 
    refine ls_gen (MP.big w3.heap.size b1 U) ?_ ?_
    · intro x w' hb hpre K hK
      simp [preds, Region.binds, phi, MP.val, MP.box, MP.big] at hpre
      obtain ⟨⟨u, hp1, g, c, hu, hI, hc, hn, -⟩, hp4⟩ := hpre
      subst hu
      simp only [frL, Act.put, List.setIfInBounds_toArray, List.set_cons_zero, List.set_cons_succ, Nat.zero_add, Nat.reduceAdd, hp1, hp4] at hK ⊢
      have HK := Lib.hid hK
      clear hK
      refine Held.mk ?_
      go_simp
      refine (UX.out g c w' hI hc hn).mono ?_
      rintro e w1 ⟨g', c', rfl, hI', hc', hn', hgb, hb1⟩
      dsimp only
      exact HK.out _ _ ⟨_, rfl, bigout_drow hI' hc' hn' hgb hb.size⟩ hb1
    -- 6: Op.load 37 (Operand.tmp 10)
    apply ls_val
    · intro x w' hb hpre K hK
      have hc := (bcell hb).1
      clear hpre
      simp only [frL, Act.put, List.setIfInBounds_toArray, List.set_cons_zero, List.set_cons_succ, Nat.zero_add, Nat.reduceAdd] at hK ⊢
      have HK := Lib.hid hK
      clear hK
      refine Held.mk ?_
      go_simp
      exact HK.out _ (Below.refl _ _)
    -- 7: Op.call { callee := Callee.value (Operand.func 51), args := #[Operand.tmp 30, Operand.tmp 
    refine ls_gen (MP.big w3.heap.size nl L) ?_ ?_
    · intro x w' hb hpre K hK
      simp [preds, Region.binds, phi, MP.val, MP.box, MP.big] at hpre
      obtain ⟨⟨u, hp5, g, c, hu, hI, hc, hn, -⟩, hp6⟩ := hpre
      subst hu
      simp only [frL, Act.put, List.setIfInBounds_toArray, List.set_cons_zero, List.set_cons_succ, Nat.zero_add, Nat.reduceAdd, hp5, hp6] at hK ⊢
      have HK := Lib.hid hK
      clear hK
      refine Held.mk ?_
      go_simp
      refine (AD.out g g4 c c4 w' hI (Vw3.out.below hb (Nat.le_refl _))).mono ?_
      rintro e w1 ⟨g', c', rfl, hI', hc', hn', hgb, hb1⟩
      dsimp only
      exact HK.out _ _ ⟨_, rfl, bigout_drow hI' hc' hn' hgb hb.size⟩ hb1
    -- 8: Op.alloc 37
    refine ls_gen (.box w3.heap.size #[.bool false, .slice none 0 0] 37) ?_ ?_
    · intro x w' hb hpre K hK
      have hc := (bcell hb).1
      clear hpre
      simp only [frL, Act.put, List.setIfInBounds_toArray, List.set_cons_zero, List.set_cons_succ, Nat.zero_add, Nat.reduceAdd] at hK ⊢
      have HK := Lib.hid hK
      clear hK
      refine Held.mk ?_
      go_simp
      exact HK.out _ _ ⟨_, rfl, hb.size, Blk.new _ _ _⟩ ((Below.refl _ _).alloc (Nat.le_refl _) _)
    intro x w' hb hp
    simp only [List.cons_append, List.nil_append, phis, MP.val, MP.box, MP.row, frL, Act.put, List.setIfInBounds_toArray, List.set_cons_zero, List.set_cons_succ, Nat.zero_add, Nat.reduceAdd] at hp ⊢
    obtain ⟨h0, h1, h2, h3, h4, h5, h6, h7, ⟨q8, h8, hq8, hB8⟩, -⟩ := hp
    simp only [h0, h2, h3, h4, h6]
    clear h0 h2 h3 h4 h6
    obtain ⟨u, hx7, g5, c5, hu, IL, hc5, hn5, hg5⟩ : ∃ u, x 7 = .agg #[.bool nl, u] ∧ ∃ g c, u = .slice g L.length c ∧ IRow w' g L.length L ∧ L.length ≤ c ∧ (g = none → c = 0) ∧ (0 < L.length → ∀ b o, g = some ⟨b, o, none⟩ → w3.heap.size ≤ b) := h7
    subst hu
    simp only [hx7, h8]
    have hw' : Below w.heap.size w w' := hw3.trans (hb.mono hw3.size)
    have kq : q8 < w'.heap.size := hB8.lt
    obtain ⟨cq0, cq1, fq0, fq1⟩ := hB8.two
    have hwq := hw3.size
    clear h1 h5 hx7 h8 hb cD0 cD1 fD0 fD1 Dw3 Vw3 kDw3
    go_upto_region 5 with fail
    refine wp_worldD ?_
    intro w4 hw4e
    have IL4 : IRow w4 g5 L.length L := by rw [hw4e]; exact irow_bx ⟨_, _, _, _, hB8⟩ IL _ _
    have hw4 : Below w.heap.size w w4 := by rw [hw4e]; exact (hw'.setCell (by simp; omega) _).setCell (by simp; omega) _
    have B4 : Blk w4 q8 #[.bool nl, .slice g5 L.length c5] 37 := by rw [hw4e]; exact (hB8.set 0 _).set 1 _
    clear hw4e cq0 cq1 fq0 fq1
    obtain ⟨cq0, cq1, fq0, fq1⟩ := B4.two
    have kq4 : q8 < w4.heap.size := B4.lt
    cases nl
    all_goals
      go_wp2_with (go_at_call 37; with_reducible refine (TR.out g5 c5 _ IL4 hc5 hn5).mono ?_; rintro e w5 ⟨rfl, rfl⟩)
      go_returns
      exact ⟨rfl, hw4⟩
end Go.Proofs.YtgbghbeolndfiaaGreatDoor

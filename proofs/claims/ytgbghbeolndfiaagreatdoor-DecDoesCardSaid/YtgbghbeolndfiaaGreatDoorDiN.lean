/- The document's operations: their walks. -/
import Derived.Test.YtgbghbeolndfiaaGreatDoorDiM
import Derived.Test.YtgbghbeolndfiaaGreatDoorWaT
set_option linter.unusedSimpArgs false
set_option linter.unusedVariables false
set_option linter.constructorNameAsVariable false
namespace Go.Proofs.YtgbghbeolndfiaaGreatDoor
open Go.RowKit

theorem digs_le (n k : Nat) (h : (n : Int) < 10 ^ k) : (digs n).length ≤ k := by
  obtain ⟨h1, h2, h3, -⟩ := digs_spec n
  refine len_le h2 h3 k ?_
  rw [h1]
  exact h
theorem prod_spec (n1 n2 : Bool) {xs ys : List Int} (gx : Dg xs) (gy : Dg ys) : Dg (digs ((dval xs).toNat * (dval ys).toNat)) ∧ (digs ((dval xs).toNat * (dval ys).toNat)).length ≤ xs.length + ys.length ∧ sgnD (!(n1 == n2)) (digs ((dval xs).toNat * (dval ys).toNat)) = sgnD n1 xs * sgnD n2 ys := by
  have hx := dval_nonneg gx
  have hy := dval_nonneg gy
  have lx := dval_lt gx
  have ly := dval_lt gy
  have hp := pow10_pos ys.length
  refine ⟨(digs_spec _).2.1, digs_le _ _ ?_, ?_⟩
  · rw [Int.natCast_mul, Int.toNat_of_nonneg hx, Int.toNat_of_nonneg hy, Int.pow_add]
    calc dval xs * dval ys ≤ dval xs * 10 ^ ys.length := Int.mul_le_mul_of_nonneg_left (by omega) hx
      _ < 10 ^ xs.length * 10 ^ ys.length := Int.mul_lt_mul_of_pos_right lx hp
  · have e : (dval (digs ((dval xs).toNat * (dval ys).toNat))).toNat = (dval xs).toNat * (dval ys).toNat := by rw [(digs_spec _).1]; omega
    unfold sgnD
    rw [e, show (!(n1 == n2)) = (n1 != n2) from rfl, mul_sgn]
theorem quo_spec (n1 n2 : Bool) {xs ys : List Int} (gx : Dg xs) (gy : Dg ys) (h0 : 0 < dval ys) : Dg (digs ((dval xs).toNat / (dval ys).toNat)) ∧ Dg (digs ((dval xs).toNat % (dval ys).toNat)) ∧ (digs ((dval xs).toNat / (dval ys).toNat)).length ≤ xs.length ∧ (digs ((dval xs).toNat % (dval ys).toNat)).length ≤ xs.length ∧
    sgnD (!(n1 == n2)) (digs ((dval xs).toNat / (dval ys).toNat)) = (sgnD n1 xs).tdiv (sgnD n2 ys) ∧ sgnD n1 (digs ((dval xs).toNat % (dval ys).toNat)) = (sgnD n1 xs).tmod (sgnD n2 ys) := by
  have hx := dval_nonneg gx
  have lx := dval_lt gx
  have q1 := Nat.div_le_self (dval xs).toNat (dval ys).toNat
  have q2 := Nat.mod_le (dval xs).toNat (dval ys).toNat
  have g1 := (digs_spec ((dval xs).toNat / (dval ys).toNat))
  have g2 := (digs_spec ((dval xs).toNat % (dval ys).toNat))
  have hs := sgnD_div (n1 := n1) (n2 := n2) gx gy g1.2.1 g2.2.1 h0
    (by rw [g1.1, Int.natCast_ediv, Int.toNat_of_nonneg hx, Int.toNat_of_nonneg (by omega)])
    (by rw [g2.1, Int.natCast_emod, Int.toNat_of_nonneg hx, Int.toNat_of_nonneg (by omega)])
  exact ⟨g1.2.1, g2.2.1, digs_le _ _ (by omega), digs_le _ _ (by omega), hs.1, hs.2⟩
theorem wp_worldD {P : Program} {c : Code} {Q : Exit → Act → World → Prop} {a : Act} {w : World} (h : ∀ W, W = w → c.wp P Q a W) : c.wp P Q a w := h w rfl
set_option maxRecDepth 100000 in
set_option maxHeartbeats 1000000 in
theorem do0_any (n k : Int) (s t : Nat) (ha : Rt n s) (hB : Rt k t) (w : World) : Calls Tryz.prog 29 #[.int .i64 0, .int .i64 n, .int .i64 (s : Int), .int .i64 k, .int .i64 (t : Int)] w fun e w' =>
    e = .returned (.tuple #[.int .i64 (addF n s k t).1, .int .i64 (addF n s k t).2.1, .int .i64 (addF n s k t).2.2]) ∧ Below w.heap.size w w' := by
  obtain ⟨na, nb, gX, nX, lX⟩ := rt_digs ha
  obtain ⟨ka, kb, gY, nY, lY⟩ := rt_digs hB
  have s9 : s ≤ 9 := by have := ha.s9; omega
  have t9 : t ≤ 9 := by have := hB.s9; omega
  clear ha hB
  obtain ⟨M, hM⟩ : ∃ M, M = max s t := ⟨_, rfl⟩
  have hM9 : M ≤ 9 := by omega
  have hmax : max (s : Int) (t : Int) = (M : Int) := by omega
  have hmax2 : max s t = M := hM.symm
  have sM : s ≤ M := by omega
  have tM : t ≤ M := by omega
  have HM := Lib.hid hM
  clear hM
  have q1 : ((M - s : Nat) : Int) = (M : Int) - (s : Int) := by omega
  have q2 : ((M - t : Nat) : Int) = (M : Int) - (t : Int) := by omega
  have j1 : IntKind.i64.wrap ((M : Int) - (s : Int)) = (M : Int) - (s : Int) := IntWalk.i64_in _ (by omega)
  have j2 : IntKind.i64.wrap ((M : Int) - (t : Int)) = (M : Int) - (t : Int) := IntWalk.i64_in _ (by omega)
  have vX := sgnD_digs n
  have vY := sgnD_digs k
  have OA := Lib.hid (fun w => of_big n na nb w)
  have OB := Lib.hid (fun w => of_big k ka kb w)
  have hk0 : dval (digs k.natAbs) = (k.natAbs : Int) := (digs_spec _).1
  obtain ⟨b1, hb1⟩ : ∃ b1, b1 = decide (n < 0) := ⟨_, rfl⟩
  obtain ⟨b2, hb2⟩ : ∃ b2, b2 = decide (k < 0) := ⟨_, rfl⟩
  obtain ⟨X, hX⟩ : ∃ X, X = digs n.natAbs := ⟨_, rfl⟩
  obtain ⟨Y, hY⟩ : ∃ Y, Y = digs k.natAbs := ⟨_, rfl⟩
  rw [← hb1, ← hX] at OA vX
  rw [← hb2, ← hY] at OB vY
  rw [← hX] at gX nX lX
  rw [← hY] at gY nY lY hk0
  clear hb1 hb2 hX hY na nb ka kb
  have uX := sgnD_up (neg := b1) gX nX (M - s)
  have uY := sgnD_up (neg := b2) gY nY (M - t)
  obtain ⟨-, gU, nU, lU⟩ := upL_spec gX nX (M - s)
  obtain ⟨vV, gV, nV, lV⟩ := upL_spec gY nY (M - t)
  have UX := Lib.hid (fun g c w h h1 h2 => up_big b1 g c X (M - s) w h h1 h2 (by omega) (by omega))
  have UY := Lib.hid (fun g c w h h1 h2 => up_big b2 g c Y (M - t) w h h1 h2 (by omega) (by omega))
  rw [vX] at uX
  rw [vY] at uY
  obtain ⟨U, hU⟩ : ∃ U, U = upL X (M - s) := ⟨_, rfl⟩
  obtain ⟨V, hV⟩ : ∃ V, V = upL Y (M - t) := ⟨_, rfl⟩
  rw [← hU] at uX gU nU lU UX
  rw [← hV] at uY gV nV lV UY vV
  have lU2 : U.length ≤ 28 := by omega
  have lV2 : V.length ≤ 28 := by omega
  simp only [q1] at UX
  simp only [q2] at UY
  clear hU hV lU lV q1 q2
  have AD := Lib.hid (fun a b c d w h1 h2 => add_big b1 b2 a b c d U V w h1 h2 gU gV (by omega) (by omega))
  obtain ⟨hs1, gL, nL, lL⟩ := addD_spec b1 b2 gU gV nU nV
  rw [uX, uY] at hs1
  obtain ⟨nl, hnl⟩ : ∃ nl, nl = (addD b1 U b2 V).1 := ⟨_, rfl⟩
  obtain ⟨L, hL⟩ : ∃ L, L = (addD b1 U b2 V).2 := ⟨_, rfl⟩
  rw [← hnl, ← hL] at AD hs1
  rw [← hL] at gL nL lL
  have hfit : (if (fitD (nl) (L) (M)).2.2 then ((fitD (nl) (L) (M)).1, (fitD (nl) (L) (M)).2.1, (0 : Int)) else (0, 0, 53)) = addF n s k t := by
    rw [fit_sgn (nl) gL (M)]
    rw [hs1]
    exact doc_add HM.out
  obtain ⟨r1, r2, r3, hr⟩ : ∃ r1 r2 r3, addF n s k t = (r1, r2, r3) := ⟨_, _, _, rfl⟩
  rw [hr] at hfit ⊢
  obtain ⟨f1, f2, f3, hf⟩ : ∃ f1 f2 f3, fitD (nl) (L) (M) = (f1, f2, f3) := ⟨_, _, _, rfl⟩
  rw [hf] at hfit
  have FT := Lib.hid (fun g c w h1 h2 h3 => fit_big nl g c L (M) w h1 h2 h3 gL (by omega) (by omega) hf)
  clear hf hr vX vY uX uY gX gY gU gV gL nX nY nU nV vV hk0 hs1 nL hnl hL
  cases f3
  · simp only [Bool.false_eq_true, if_false, if_true, Prod.mk.injEq] at hfit
    obtain ⟨rfl, rfl, rfl⟩ := hfit
    have hw : Below w.heap.size w w := Below.refl _ _
    go_enter Tryz.func29, Tryz.ntmps29
    go_upto_region 28 with (first
      | (go_at_call 15
         with_reducible refine (OA.out _).mono ?_
         rintro e w1 ⟨g1, c1, rfl, IX, hc1, hn1, -, hb⟩
         have hs := hb
         have hw1 : Below w.heap.size w w1 := hw.trans (hs.mono hw.size)
         have Xw1 := Lib.hid IX
         clear IX
         clear hb hs)
      | (go_at_call 15
         with_reducible refine (OB.out _).mono ?_
         rintro e w2 ⟨g2, c2, rfl, IY, hc2, hn2, -, hb⟩
         have hs : Below w1.heap.size w1 w2 := ((Below.refl _ _).alloc (Nat.le_refl _) _).trans (hb.mono (by simp; try omega))
         have hw2 : Below w.heap.size w w2 := hw1.trans (hs.mono hw1.size)
         have Aw2 : Blk w2 w1.heap.size #[.bool b1, .slice g1 X.length c1] 37 := (Blk.here rfl rfl).below hb (by simp; try omega)
         have Xw2 := Lib.hid (Xw1.out.below hs (Nat.le_refl _))
         have Yw2 := Lib.hid IY
         clear IY
         clear hb hs Xw1
         obtain ⟨cA0, cA1, fA0, fA1⟩ := Aw2.two
         have kAw2 : w1.heap.size < w2.heap.size := Aw2.lt)
      | (go_at_call 50
         with_reducible refine (UX.out g1 c1 _ (Xw2.out.below ((Below.refl _ _).alloc (Nat.le_refl _) _) (Nat.le_refl _)) hc1 hn1).mono ?_
         rintro e w3 ⟨g3, c3, rfl, IU, hc3, hn3, -, hb⟩
         have hs : Below w2.heap.size w2 w3 := ((Below.refl _ _).alloc (Nat.le_refl _) _).trans (hb.mono (by simp; try omega))
         have hw3 : Below w.heap.size w w3 := hw2.trans (hs.mono hw2.size)
         have Aw3 := Aw2.below hs kAw2
         have Bw3 : Blk w3 w2.heap.size #[.bool b2, .slice g2 Y.length c2] 37 := (Blk.here rfl rfl).below hb (by simp; try omega)
         have Xw3 := Lib.hid (Xw2.out.below hs (Nat.le_refl _))
         have Yw3 := Lib.hid (Yw2.out.below hs (Nat.le_refl _))
         have Uw3 := Lib.hid IU
         clear IU
         clear hb hs Aw2 kAw2 cA0 cA1 fA0 fA1 Xw2 Yw2
         obtain ⟨cA0, cA1, fA0, fA1⟩ := Aw3.two
         have kAw3 : w1.heap.size < w3.heap.size := Aw3.lt
         obtain ⟨cB0, cB1, fB0, fB1⟩ := Bw3.two
         have kBw3 : w2.heap.size < w3.heap.size := Bw3.lt)
      | (go_at_call 50
         with_reducible refine (UY.out g2 c2 _ (Yw3.out.below ((Below.refl _ _).alloc (Nat.le_refl _) _) (Nat.le_refl _)) hc2 hn2).mono ?_
         rintro e w4 ⟨g4, c4, rfl, IV, hc4, hn4, -, hb⟩
         have hs : Below w3.heap.size w3 w4 := ((Below.refl _ _).alloc (Nat.le_refl _) _).trans (hb.mono (by simp; try omega))
         have hw4 : Below w.heap.size w w4 := hw3.trans (hs.mono hw3.size)
         have Aw4 := Aw3.below hs kAw3
         have Bw4 := Bw3.below hs kBw3
         have Cw4 : Blk w4 w3.heap.size #[.bool b1, .slice g3 U.length c3] 37 := (Blk.here rfl rfl).below hb (by simp; try omega)
         have Xw4 := Lib.hid (Xw3.out.below hs (Nat.le_refl _))
         have Yw4 := Lib.hid (Yw3.out.below hs (Nat.le_refl _))
         have Uw4 := Lib.hid (Uw3.out.below hs (Nat.le_refl _))
         have Vw4 := Lib.hid IV
         clear IV
         clear hb hs Aw3 kAw3 cA0 cA1 fA0 fA1 Bw3 kBw3 cB0 cB1 fB0 fB1 Xw3 Yw3 Uw3
         obtain ⟨cA0, cA1, fA0, fA1⟩ := Aw4.two
         have kAw4 : w1.heap.size < w4.heap.size := Aw4.lt
         obtain ⟨cB0, cB1, fB0, fB1⟩ := Bw4.two
         have kBw4 : w2.heap.size < w4.heap.size := Bw4.lt
         obtain ⟨cC0, cC1, fC0, fC1⟩ := Cw4.two
         have kCw4 : w3.heap.size < w4.heap.size := Cw4.lt)
      | (go_at_call 51
         with_reducible refine (AD.out g3 g4 c3 c4 _ (Uw4.out.below (((Below.refl _ _).alloc (Nat.le_refl _) _).alloc (by simp; try omega) _) (Nat.le_refl _)) (Vw4.out.below (((Below.refl _ _).alloc (Nat.le_refl _) _).alloc (by simp; try omega) _) (Nat.le_refl _))).mono ?_
         rintro e w5 ⟨g5, c5, rfl, IL, hc5, hn5, hg5, hb⟩
         have hs : Below w4.heap.size w4 w5 := (((Below.refl _ _).alloc (Nat.le_refl _) _).alloc (by simp; try omega) _).trans (hb.mono (by simp; try omega))
         have hw5 : Below w.heap.size w w5 := hw4.trans (hs.mono hw4.size)
         have Rw5 : Blk w5 (w4.heap.size + 1) #[.bool false, .slice none 0 0] 37 := (Blk.here rfl (by simp)).below hb (by simp; try omega)
         have Lw5 := Lib.hid IL
         clear IL
         clear hb hs Aw4 kAw4 cA0 cA1 fA0 fA1 Bw4 kBw4 cB0 cB1 fB0 fB1 Cw4 kCw4 cC0 cC1 fC0 fC1 Xw4 Yw4 Uw4 Vw4
         obtain ⟨cR0, cR1, fR0, fR1⟩ := Rw5.two
         have kRw5 : (w4.heap.size + 1) < w5.heap.size := Rw5.lt
         have kkRw5 : w4.heap.size < w5.heap.size := by omega))
    refine wp_worldD ?_
    intro w6 hw6e
    have IL6 : IRow w6 g5 L.length L := by
      rw [hw6e]
      refine (Lw5.out.other _ fun hn b o e => ?_).other _ fun hn b o e => ?_
      all_goals have := hg5 hn b o e; simp at this ⊢; omega
    have hw6 : Below w.heap.size w w6 := by
      rw [hw6e]
      exact (hw5.setCell (by simp; have := hw4.size; omega) _).setCell (by simp; have := hw4.size; omega) _
    have R6 : Blk w6 (w4.heap.size + 1) #[.bool nl, .slice g5 L.length c5] 37 := by
      rw [hw6e]
      exact (Rw5.set 0 _).set 1 _
    clear hw6e cR0 cR1 fR0 fR1
    obtain ⟨cR0, cR1, fR0, fR1⟩ := R6.two
    have kR6 : (w4.heap.size + 1) < w6.heap.size := R6.lt
    go_wp2_with (go_at_call 14; with_reducible refine (FT.out g5 c5 _ IL6 hc5 hn5).mono ?_; rintro e w9 ⟨rfl, hb⟩
                 have hw9 := hw6.trans (hb.mono hw6.size)
                 clear hb)
    refine bodyPost_ret (v := .tuple #[.int .i64 0, .int .i64 0, .int .i64 53]) (by simp [results, Tryz.results29, go_sem]) rfl ⟨rfl, ?_⟩
    exact hw9
  · simp only [Bool.false_eq_true, if_false, if_true, Prod.mk.injEq] at hfit
    obtain ⟨rfl, rfl, rfl⟩ := hfit
    have hw : Below w.heap.size w w := Below.refl _ _
    go_enter Tryz.func29, Tryz.ntmps29
    go_upto_region 28 with (first
      | (go_at_call 15
         with_reducible refine (OA.out _).mono ?_
         rintro e w1 ⟨g1, c1, rfl, IX, hc1, hn1, -, hb⟩
         have hs := hb
         have hw1 : Below w.heap.size w w1 := hw.trans (hs.mono hw.size)
         have Xw1 := Lib.hid IX
         clear IX
         clear hb hs)
      | (go_at_call 15
         with_reducible refine (OB.out _).mono ?_
         rintro e w2 ⟨g2, c2, rfl, IY, hc2, hn2, -, hb⟩
         have hs : Below w1.heap.size w1 w2 := ((Below.refl _ _).alloc (Nat.le_refl _) _).trans (hb.mono (by simp; try omega))
         have hw2 : Below w.heap.size w w2 := hw1.trans (hs.mono hw1.size)
         have Aw2 : Blk w2 w1.heap.size #[.bool b1, .slice g1 X.length c1] 37 := (Blk.here rfl rfl).below hb (by simp; try omega)
         have Xw2 := Lib.hid (Xw1.out.below hs (Nat.le_refl _))
         have Yw2 := Lib.hid IY
         clear IY
         clear hb hs Xw1
         obtain ⟨cA0, cA1, fA0, fA1⟩ := Aw2.two
         have kAw2 : w1.heap.size < w2.heap.size := Aw2.lt)
      | (go_at_call 50
         with_reducible refine (UX.out g1 c1 _ (Xw2.out.below ((Below.refl _ _).alloc (Nat.le_refl _) _) (Nat.le_refl _)) hc1 hn1).mono ?_
         rintro e w3 ⟨g3, c3, rfl, IU, hc3, hn3, -, hb⟩
         have hs : Below w2.heap.size w2 w3 := ((Below.refl _ _).alloc (Nat.le_refl _) _).trans (hb.mono (by simp; try omega))
         have hw3 : Below w.heap.size w w3 := hw2.trans (hs.mono hw2.size)
         have Aw3 := Aw2.below hs kAw2
         have Bw3 : Blk w3 w2.heap.size #[.bool b2, .slice g2 Y.length c2] 37 := (Blk.here rfl rfl).below hb (by simp; try omega)
         have Xw3 := Lib.hid (Xw2.out.below hs (Nat.le_refl _))
         have Yw3 := Lib.hid (Yw2.out.below hs (Nat.le_refl _))
         have Uw3 := Lib.hid IU
         clear IU
         clear hb hs Aw2 kAw2 cA0 cA1 fA0 fA1 Xw2 Yw2
         obtain ⟨cA0, cA1, fA0, fA1⟩ := Aw3.two
         have kAw3 : w1.heap.size < w3.heap.size := Aw3.lt
         obtain ⟨cB0, cB1, fB0, fB1⟩ := Bw3.two
         have kBw3 : w2.heap.size < w3.heap.size := Bw3.lt)
      | (go_at_call 50
         with_reducible refine (UY.out g2 c2 _ (Yw3.out.below ((Below.refl _ _).alloc (Nat.le_refl _) _) (Nat.le_refl _)) hc2 hn2).mono ?_
         rintro e w4 ⟨g4, c4, rfl, IV, hc4, hn4, -, hb⟩
         have hs : Below w3.heap.size w3 w4 := ((Below.refl _ _).alloc (Nat.le_refl _) _).trans (hb.mono (by simp; try omega))
         have hw4 : Below w.heap.size w w4 := hw3.trans (hs.mono hw3.size)
         have Aw4 := Aw3.below hs kAw3
         have Bw4 := Bw3.below hs kBw3
         have Cw4 : Blk w4 w3.heap.size #[.bool b1, .slice g3 U.length c3] 37 := (Blk.here rfl rfl).below hb (by simp; try omega)
         have Xw4 := Lib.hid (Xw3.out.below hs (Nat.le_refl _))
         have Yw4 := Lib.hid (Yw3.out.below hs (Nat.le_refl _))
         have Uw4 := Lib.hid (Uw3.out.below hs (Nat.le_refl _))
         have Vw4 := Lib.hid IV
         clear IV
         clear hb hs Aw3 kAw3 cA0 cA1 fA0 fA1 Bw3 kBw3 cB0 cB1 fB0 fB1 Xw3 Yw3 Uw3
         obtain ⟨cA0, cA1, fA0, fA1⟩ := Aw4.two
         have kAw4 : w1.heap.size < w4.heap.size := Aw4.lt
         obtain ⟨cB0, cB1, fB0, fB1⟩ := Bw4.two
         have kBw4 : w2.heap.size < w4.heap.size := Bw4.lt
         obtain ⟨cC0, cC1, fC0, fC1⟩ := Cw4.two
         have kCw4 : w3.heap.size < w4.heap.size := Cw4.lt)
      | (go_at_call 51
         with_reducible refine (AD.out g3 g4 c3 c4 _ (Uw4.out.below (((Below.refl _ _).alloc (Nat.le_refl _) _).alloc (by simp; try omega) _) (Nat.le_refl _)) (Vw4.out.below (((Below.refl _ _).alloc (Nat.le_refl _) _).alloc (by simp; try omega) _) (Nat.le_refl _))).mono ?_
         rintro e w5 ⟨g5, c5, rfl, IL, hc5, hn5, hg5, hb⟩
         have hs : Below w4.heap.size w4 w5 := (((Below.refl _ _).alloc (Nat.le_refl _) _).alloc (by simp; try omega) _).trans (hb.mono (by simp; try omega))
         have hw5 : Below w.heap.size w w5 := hw4.trans (hs.mono hw4.size)
         have Rw5 : Blk w5 (w4.heap.size + 1) #[.bool false, .slice none 0 0] 37 := (Blk.here rfl (by simp)).below hb (by simp; try omega)
         have Lw5 := Lib.hid IL
         clear IL
         clear hb hs Aw4 kAw4 cA0 cA1 fA0 fA1 Bw4 kBw4 cB0 cB1 fB0 fB1 Cw4 kCw4 cC0 cC1 fC0 fC1 Xw4 Yw4 Uw4 Vw4
         obtain ⟨cR0, cR1, fR0, fR1⟩ := Rw5.two
         have kRw5 : (w4.heap.size + 1) < w5.heap.size := Rw5.lt
         have kkRw5 : w4.heap.size < w5.heap.size := by omega))
    refine wp_worldD ?_
    intro w6 hw6e
    have IL6 : IRow w6 g5 L.length L := by
      rw [hw6e]
      refine (Lw5.out.other _ fun hn b o e => ?_).other _ fun hn b o e => ?_
      all_goals have := hg5 hn b o e; simp at this ⊢; omega
    have hw6 : Below w.heap.size w w6 := by
      rw [hw6e]
      exact (hw5.setCell (by simp; have := hw4.size; omega) _).setCell (by simp; have := hw4.size; omega) _
    have R6 : Blk w6 (w4.heap.size + 1) #[.bool nl, .slice g5 L.length c5] 37 := by
      rw [hw6e]
      exact (Rw5.set 0 _).set 1 _
    clear hw6e cR0 cR1 fR0 fR1
    obtain ⟨cR0, cR1, fR0, fR1⟩ := R6.two
    have kR6 : (w4.heap.size + 1) < w6.heap.size := R6.lt
    go_wp2_with (go_at_call 14; with_reducible refine (FT.out g5 c5 _ IL6 hc5 hn5).mono ?_; rintro e w9 ⟨rfl, hb⟩
                 have hw9 := hw6.trans (hb.mono hw6.size)
                 clear hb)
    refine bodyPost_ret (v := .tuple #[.int .i64 f1, .int .i64 f2, .int .i64 0]) (by simp [results, Tryz.results29, go_sem]) rfl ⟨rfl, ?_⟩
    exact hw9
set_option maxRecDepth 100000 in
set_option maxHeartbeats 1000000 in
theorem do1_any (n k : Int) (s t : Nat) (ha : Rt n s) (hB : Rt k t) (w : World) : Calls Tryz.prog 29 #[.int .i64 1, .int .i64 n, .int .i64 (s : Int), .int .i64 k, .int .i64 (t : Int)] w fun e w' =>
    e = .returned (.tuple #[.int .i64 (subF n s k t).1, .int .i64 (subF n s k t).2.1, .int .i64 (subF n s k t).2.2]) ∧ Below w.heap.size w w' := by
  obtain ⟨na, nb, gX, nX, lX⟩ := rt_digs ha
  obtain ⟨ka, kb, gY, nY, lY⟩ := rt_digs hB
  have s9 : s ≤ 9 := by have := ha.s9; omega
  have t9 : t ≤ 9 := by have := hB.s9; omega
  clear ha hB
  obtain ⟨M, hM⟩ : ∃ M, M = max s t := ⟨_, rfl⟩
  have hM9 : M ≤ 9 := by omega
  have hmax : max (s : Int) (t : Int) = (M : Int) := by omega
  have hmax2 : max s t = M := hM.symm
  have sM : s ≤ M := by omega
  have tM : t ≤ M := by omega
  have HM := Lib.hid hM
  clear hM
  have q1 : ((M - s : Nat) : Int) = (M : Int) - (s : Int) := by omega
  have q2 : ((M - t : Nat) : Int) = (M : Int) - (t : Int) := by omega
  have j1 : IntKind.i64.wrap ((M : Int) - (s : Int)) = (M : Int) - (s : Int) := IntWalk.i64_in _ (by omega)
  have j2 : IntKind.i64.wrap ((M : Int) - (t : Int)) = (M : Int) - (t : Int) := IntWalk.i64_in _ (by omega)
  have vX := sgnD_digs n
  have vY := sgnD_digs k
  have OA := Lib.hid (fun w => of_big n na nb w)
  have OB := Lib.hid (fun w => of_big k ka kb w)
  have hk0 : dval (digs k.natAbs) = (k.natAbs : Int) := (digs_spec _).1
  obtain ⟨b1, hb1⟩ : ∃ b1, b1 = decide (n < 0) := ⟨_, rfl⟩
  obtain ⟨b2, hb2⟩ : ∃ b2, b2 = decide (k < 0) := ⟨_, rfl⟩
  obtain ⟨X, hX⟩ : ∃ X, X = digs n.natAbs := ⟨_, rfl⟩
  obtain ⟨Y, hY⟩ : ∃ Y, Y = digs k.natAbs := ⟨_, rfl⟩
  rw [← hb1, ← hX] at OA vX
  rw [← hb2, ← hY] at OB vY
  rw [← hX] at gX nX lX
  rw [← hY] at gY nY lY hk0
  clear hb1 hb2 hX hY na nb ka kb
  have uX := sgnD_up (neg := b1) gX nX (M - s)
  have uY := sgnD_up (neg := b2) gY nY (M - t)
  obtain ⟨-, gU, nU, lU⟩ := upL_spec gX nX (M - s)
  obtain ⟨vV, gV, nV, lV⟩ := upL_spec gY nY (M - t)
  have UX := Lib.hid (fun g c w h h1 h2 => up_big b1 g c X (M - s) w h h1 h2 (by omega) (by omega))
  have UY := Lib.hid (fun g c w h h1 h2 => up_big b2 g c Y (M - t) w h h1 h2 (by omega) (by omega))
  rw [vX] at uX
  rw [vY] at uY
  obtain ⟨U, hU⟩ : ∃ U, U = upL X (M - s) := ⟨_, rfl⟩
  obtain ⟨V, hV⟩ : ∃ V, V = upL Y (M - t) := ⟨_, rfl⟩
  rw [← hU] at uX gU nU lU UX
  rw [← hV] at uY gV nV lV UY vV
  have lU2 : U.length ≤ 28 := by omega
  have lV2 : V.length ≤ 28 := by omega
  simp only [q1] at UX
  simp only [q2] at UY
  clear hU hV lU lV q1 q2
  have AD := Lib.hid (fun a b c d w h1 h2 => add_big b1 (!b2) a b c d U V w h1 h2 gU gV (by omega) (by omega))
  obtain ⟨hs1, gL, nL, lL⟩ := addD_spec b1 (!b2) gU gV nU nV
  rw [uX, sgnD_not gV, uY] at hs1
  obtain ⟨nl, hnl⟩ : ∃ nl, nl = (addD b1 U (!b2) V).1 := ⟨_, rfl⟩
  obtain ⟨L, hL⟩ : ∃ L, L = (addD b1 U (!b2) V).2 := ⟨_, rfl⟩
  rw [← hnl, ← hL] at AD hs1
  rw [← hL] at gL nL lL
  have hfit : (if (fitD (nl) (L) (M)).2.2 then ((fitD (nl) (L) (M)).1, (fitD (nl) (L) (M)).2.1, (0 : Int)) else (0, 0, 53)) = subF n s k t := by
    rw [fit_sgn (nl) gL (M)]
    rw [hs1]
    exact doc_sub HM.out
  obtain ⟨r1, r2, r3, hr⟩ : ∃ r1 r2 r3, subF n s k t = (r1, r2, r3) := ⟨_, _, _, rfl⟩
  rw [hr] at hfit ⊢
  obtain ⟨f1, f2, f3, hf⟩ : ∃ f1 f2 f3, fitD (nl) (L) (M) = (f1, f2, f3) := ⟨_, _, _, rfl⟩
  rw [hf] at hfit
  have FT := Lib.hid (fun g c w h1 h2 h3 => fit_big nl g c L (M) w h1 h2 h3 gL (by omega) (by omega) hf)
  clear hf hr vX vY uX uY gX gY gU gV gL nX nY nU nV vV hk0 hs1 nL hnl hL
  cases f3
  · simp only [Bool.false_eq_true, if_false, if_true, Prod.mk.injEq] at hfit
    obtain ⟨rfl, rfl, rfl⟩ := hfit
    have hw : Below w.heap.size w w := Below.refl _ _
    go_enter Tryz.func29, Tryz.ntmps29
    go_upto_region 16 with (first
      | (go_at_call 15
         with_reducible refine (OA.out _).mono ?_
         rintro e w1 ⟨g1, c1, rfl, IX, hc1, hn1, -, hb⟩
         have hs := hb
         have hw1 : Below w.heap.size w w1 := hw.trans (hs.mono hw.size)
         have Xw1 := Lib.hid IX
         clear IX
         clear hb hs)
      | (go_at_call 15
         with_reducible refine (OB.out _).mono ?_
         rintro e w2 ⟨g2, c2, rfl, IY, hc2, hn2, -, hb⟩
         have hs : Below w1.heap.size w1 w2 := ((Below.refl _ _).alloc (Nat.le_refl _) _).trans (hb.mono (by simp; try omega))
         have hw2 : Below w.heap.size w w2 := hw1.trans (hs.mono hw1.size)
         have Aw2 : Blk w2 w1.heap.size #[.bool b1, .slice g1 X.length c1] 37 := (Blk.here rfl rfl).below hb (by simp; try omega)
         have Xw2 := Lib.hid (Xw1.out.below hs (Nat.le_refl _))
         have Yw2 := Lib.hid IY
         clear IY
         clear hb hs Xw1
         obtain ⟨cA0, cA1, fA0, fA1⟩ := Aw2.two
         have kAw2 : w1.heap.size < w2.heap.size := Aw2.lt)
      | (go_at_call 50
         with_reducible refine (UX.out g1 c1 _ (Xw2.out.below ((Below.refl _ _).alloc (Nat.le_refl _) _) (Nat.le_refl _)) hc1 hn1).mono ?_
         rintro e w3 ⟨g3, c3, rfl, IU, hc3, hn3, -, hb⟩
         have hs : Below w2.heap.size w2 w3 := ((Below.refl _ _).alloc (Nat.le_refl _) _).trans (hb.mono (by simp; try omega))
         have hw3 : Below w.heap.size w w3 := hw2.trans (hs.mono hw2.size)
         have Aw3 := Aw2.below hs kAw2
         have Bw3 : Blk w3 w2.heap.size #[.bool b2, .slice g2 Y.length c2] 37 := (Blk.here rfl rfl).below hb (by simp; try omega)
         have Xw3 := Lib.hid (Xw2.out.below hs (Nat.le_refl _))
         have Yw3 := Lib.hid (Yw2.out.below hs (Nat.le_refl _))
         have Uw3 := Lib.hid IU
         clear IU
         clear hb hs Aw2 kAw2 cA0 cA1 fA0 fA1 Xw2 Yw2
         obtain ⟨cA0, cA1, fA0, fA1⟩ := Aw3.two
         have kAw3 : w1.heap.size < w3.heap.size := Aw3.lt
         obtain ⟨cB0, cB1, fB0, fB1⟩ := Bw3.two
         have kBw3 : w2.heap.size < w3.heap.size := Bw3.lt)
      | (go_at_call 50
         with_reducible refine (UY.out g2 c2 _ (Yw3.out.below ((Below.refl _ _).alloc (Nat.le_refl _) _) (Nat.le_refl _)) hc2 hn2).mono ?_
         rintro e w4 ⟨g4, c4, rfl, IV, hc4, hn4, -, hb⟩
         have hs : Below w3.heap.size w3 w4 := ((Below.refl _ _).alloc (Nat.le_refl _) _).trans (hb.mono (by simp; try omega))
         have hw4 : Below w.heap.size w w4 := hw3.trans (hs.mono hw3.size)
         have Aw4 := Aw3.below hs kAw3
         have Bw4 := Bw3.below hs kBw3
         have Cw4 : Blk w4 w3.heap.size #[.bool b1, .slice g3 U.length c3] 37 := (Blk.here rfl rfl).below hb (by simp; try omega)
         have Xw4 := Lib.hid (Xw3.out.below hs (Nat.le_refl _))
         have Yw4 := Lib.hid (Yw3.out.below hs (Nat.le_refl _))
         have Uw4 := Lib.hid (Uw3.out.below hs (Nat.le_refl _))
         have Vw4 := Lib.hid IV
         clear IV
         clear hb hs Aw3 kAw3 cA0 cA1 fA0 fA1 Bw3 kBw3 cB0 cB1 fB0 fB1 Xw3 Yw3 Uw3
         obtain ⟨cA0, cA1, fA0, fA1⟩ := Aw4.two
         have kAw4 : w1.heap.size < w4.heap.size := Aw4.lt
         obtain ⟨cB0, cB1, fB0, fB1⟩ := Bw4.two
         have kBw4 : w2.heap.size < w4.heap.size := Bw4.lt
         obtain ⟨cC0, cC1, fC0, fC1⟩ := Cw4.two
         have kCw4 : w3.heap.size < w4.heap.size := Cw4.lt))
    refine wp_worldD ?_
    intro w5 hw5e
    have hs : Below w4.heap.size w4 w5 := by rw [hw5e]; exact ((Below.refl _ _).alloc (Nat.le_refl _) _).alloc (by simp) _
    have hw5 : Below w.heap.size w w5 := hw4.trans (hs.mono hw4.size)
    have Cw5 := Cw4.below hs kCw4
    have Dw5 : Blk w5 w4.heap.size #[.bool (!b2), .slice g4 V.length c4] 37 := by rw [hw5e]; exact Blk.alloc (Blk.here rfl rfl) _
    have Rw5 : Blk w5 (w4.heap.size + 1) #[.bool false, .slice none 0 0] 37 := by rw [hw5e]; exact Blk.here rfl (by simp)
    have Uw5 := Lib.hid (Uw4.out.below hs (Nat.le_refl _))
    have Vw5 := Lib.hid (Vw4.out.below hs (Nat.le_refl _))
    clear hs hw5e cA0 cA1 fA0 fA1 cB0 cB1 fB0 fB1 cC0 cC1 fC0 fC1 Aw4 Bw4 Cw4 kAw4 kBw4 kCw4
    obtain ⟨cC0, cC1, fC0, fC1⟩ := Cw5.two
    obtain ⟨cD0, cD1, fD0, fD1⟩ := Dw5.two
    obtain ⟨cR0, cR1, fR0, fR1⟩ := Rw5.two
    have kCw5 : w3.heap.size < w5.heap.size := Cw5.lt
    have kDw5 : w4.heap.size < w5.heap.size := Dw5.lt
    have kRw5 : (w4.heap.size + 1) < w5.heap.size := Rw5.lt
    have kr5 : w4.heap.size + 1 < w5.heap.size := Rw5.lt
    go_upto_region 28 with (first
      | (go_at_call 51
         with_reducible refine (AD.out g3 g4 c3 c4 _ Uw5.out Vw5.out).mono ?_
         rintro e w7 ⟨g5, c5, rfl, IL, hc5, hn5, hg5, hb⟩
         have hs := hb
         have hw7 : Below w.heap.size w w7 := hw5.trans (hs.mono hw5.size)
         have Rw7 := Rw5.below hs kRw5
         have Lw7 := Lib.hid IL
         clear IL
         clear hb hs Cw5 kCw5 cC0 cC1 fC0 fC1 Dw5 kDw5 cD0 cD1 fD0 fD1 Rw5 kRw5 cR0 cR1 fR0 fR1 Uw5 Vw5
         obtain ⟨cR0, cR1, fR0, fR1⟩ := Rw7.two
         have kRw7 : (w4.heap.size + 1) < w7.heap.size := Rw7.lt
         have kkRw7 : w4.heap.size < w7.heap.size := by omega))
    refine wp_worldD ?_
    intro w6 hw6e
    have IL6 : IRow w6 g5 L.length L := by
      rw [hw6e]
      refine (Lw7.out.other _ fun hn b o e => ?_).other _ fun hn b o e => ?_
      all_goals have := hg5 hn b o e; simp at this ⊢; omega
    have hw6 : Below w.heap.size w w6 := by
      rw [hw6e]
      exact (hw7.setCell (by simp; have := hw4.size; omega) _).setCell (by simp; have := hw4.size; omega) _
    have R6 : Blk w6 (w4.heap.size + 1) #[.bool nl, .slice g5 L.length c5] 37 := by
      rw [hw6e]
      exact (Rw7.set 0 _).set 1 _
    clear hw6e cR0 cR1 fR0 fR1
    obtain ⟨cR0, cR1, fR0, fR1⟩ := R6.two
    have kR6 : (w4.heap.size + 1) < w6.heap.size := R6.lt
    go_wp2_with (go_at_call 14; with_reducible refine (FT.out g5 c5 _ IL6 hc5 hn5).mono ?_; rintro e w9 ⟨rfl, hb⟩
                 have hw9 := hw6.trans (hb.mono hw6.size)
                 clear hb)
    refine bodyPost_ret (v := .tuple #[.int .i64 0, .int .i64 0, .int .i64 53]) (by simp [results, Tryz.results29, go_sem]) rfl ⟨rfl, ?_⟩
    exact hw9
  · simp only [Bool.false_eq_true, if_false, if_true, Prod.mk.injEq] at hfit
    obtain ⟨rfl, rfl, rfl⟩ := hfit
    have hw : Below w.heap.size w w := Below.refl _ _
    go_enter Tryz.func29, Tryz.ntmps29
    go_upto_region 16 with (first
      | (go_at_call 15
         with_reducible refine (OA.out _).mono ?_
         rintro e w1 ⟨g1, c1, rfl, IX, hc1, hn1, -, hb⟩
         have hs := hb
         have hw1 : Below w.heap.size w w1 := hw.trans (hs.mono hw.size)
         have Xw1 := Lib.hid IX
         clear IX
         clear hb hs)
      | (go_at_call 15
         with_reducible refine (OB.out _).mono ?_
         rintro e w2 ⟨g2, c2, rfl, IY, hc2, hn2, -, hb⟩
         have hs : Below w1.heap.size w1 w2 := ((Below.refl _ _).alloc (Nat.le_refl _) _).trans (hb.mono (by simp; try omega))
         have hw2 : Below w.heap.size w w2 := hw1.trans (hs.mono hw1.size)
         have Aw2 : Blk w2 w1.heap.size #[.bool b1, .slice g1 X.length c1] 37 := (Blk.here rfl rfl).below hb (by simp; try omega)
         have Xw2 := Lib.hid (Xw1.out.below hs (Nat.le_refl _))
         have Yw2 := Lib.hid IY
         clear IY
         clear hb hs Xw1
         obtain ⟨cA0, cA1, fA0, fA1⟩ := Aw2.two
         have kAw2 : w1.heap.size < w2.heap.size := Aw2.lt)
      | (go_at_call 50
         with_reducible refine (UX.out g1 c1 _ (Xw2.out.below ((Below.refl _ _).alloc (Nat.le_refl _) _) (Nat.le_refl _)) hc1 hn1).mono ?_
         rintro e w3 ⟨g3, c3, rfl, IU, hc3, hn3, -, hb⟩
         have hs : Below w2.heap.size w2 w3 := ((Below.refl _ _).alloc (Nat.le_refl _) _).trans (hb.mono (by simp; try omega))
         have hw3 : Below w.heap.size w w3 := hw2.trans (hs.mono hw2.size)
         have Aw3 := Aw2.below hs kAw2
         have Bw3 : Blk w3 w2.heap.size #[.bool b2, .slice g2 Y.length c2] 37 := (Blk.here rfl rfl).below hb (by simp; try omega)
         have Xw3 := Lib.hid (Xw2.out.below hs (Nat.le_refl _))
         have Yw3 := Lib.hid (Yw2.out.below hs (Nat.le_refl _))
         have Uw3 := Lib.hid IU
         clear IU
         clear hb hs Aw2 kAw2 cA0 cA1 fA0 fA1 Xw2 Yw2
         obtain ⟨cA0, cA1, fA0, fA1⟩ := Aw3.two
         have kAw3 : w1.heap.size < w3.heap.size := Aw3.lt
         obtain ⟨cB0, cB1, fB0, fB1⟩ := Bw3.two
         have kBw3 : w2.heap.size < w3.heap.size := Bw3.lt)
      | (go_at_call 50
         with_reducible refine (UY.out g2 c2 _ (Yw3.out.below ((Below.refl _ _).alloc (Nat.le_refl _) _) (Nat.le_refl _)) hc2 hn2).mono ?_
         rintro e w4 ⟨g4, c4, rfl, IV, hc4, hn4, -, hb⟩
         have hs : Below w3.heap.size w3 w4 := ((Below.refl _ _).alloc (Nat.le_refl _) _).trans (hb.mono (by simp; try omega))
         have hw4 : Below w.heap.size w w4 := hw3.trans (hs.mono hw3.size)
         have Aw4 := Aw3.below hs kAw3
         have Bw4 := Bw3.below hs kBw3
         have Cw4 : Blk w4 w3.heap.size #[.bool b1, .slice g3 U.length c3] 37 := (Blk.here rfl rfl).below hb (by simp; try omega)
         have Xw4 := Lib.hid (Xw3.out.below hs (Nat.le_refl _))
         have Yw4 := Lib.hid (Yw3.out.below hs (Nat.le_refl _))
         have Uw4 := Lib.hid (Uw3.out.below hs (Nat.le_refl _))
         have Vw4 := Lib.hid IV
         clear IV
         clear hb hs Aw3 kAw3 cA0 cA1 fA0 fA1 Bw3 kBw3 cB0 cB1 fB0 fB1 Xw3 Yw3 Uw3
         obtain ⟨cA0, cA1, fA0, fA1⟩ := Aw4.two
         have kAw4 : w1.heap.size < w4.heap.size := Aw4.lt
         obtain ⟨cB0, cB1, fB0, fB1⟩ := Bw4.two
         have kBw4 : w2.heap.size < w4.heap.size := Bw4.lt
         obtain ⟨cC0, cC1, fC0, fC1⟩ := Cw4.two
         have kCw4 : w3.heap.size < w4.heap.size := Cw4.lt))
    refine wp_worldD ?_
    intro w5 hw5e
    have hs : Below w4.heap.size w4 w5 := by rw [hw5e]; exact ((Below.refl _ _).alloc (Nat.le_refl _) _).alloc (by simp) _
    have hw5 : Below w.heap.size w w5 := hw4.trans (hs.mono hw4.size)
    have Cw5 := Cw4.below hs kCw4
    have Dw5 : Blk w5 w4.heap.size #[.bool (!b2), .slice g4 V.length c4] 37 := by rw [hw5e]; exact Blk.alloc (Blk.here rfl rfl) _
    have Rw5 : Blk w5 (w4.heap.size + 1) #[.bool false, .slice none 0 0] 37 := by rw [hw5e]; exact Blk.here rfl (by simp)
    have Uw5 := Lib.hid (Uw4.out.below hs (Nat.le_refl _))
    have Vw5 := Lib.hid (Vw4.out.below hs (Nat.le_refl _))
    clear hs hw5e cA0 cA1 fA0 fA1 cB0 cB1 fB0 fB1 cC0 cC1 fC0 fC1 Aw4 Bw4 Cw4 kAw4 kBw4 kCw4
    obtain ⟨cC0, cC1, fC0, fC1⟩ := Cw5.two
    obtain ⟨cD0, cD1, fD0, fD1⟩ := Dw5.two
    obtain ⟨cR0, cR1, fR0, fR1⟩ := Rw5.two
    have kCw5 : w3.heap.size < w5.heap.size := Cw5.lt
    have kDw5 : w4.heap.size < w5.heap.size := Dw5.lt
    have kRw5 : (w4.heap.size + 1) < w5.heap.size := Rw5.lt
    have kr5 : w4.heap.size + 1 < w5.heap.size := Rw5.lt
    go_upto_region 28 with (first
      | (go_at_call 51
         with_reducible refine (AD.out g3 g4 c3 c4 _ Uw5.out Vw5.out).mono ?_
         rintro e w7 ⟨g5, c5, rfl, IL, hc5, hn5, hg5, hb⟩
         have hs := hb
         have hw7 : Below w.heap.size w w7 := hw5.trans (hs.mono hw5.size)
         have Rw7 := Rw5.below hs kRw5
         have Lw7 := Lib.hid IL
         clear IL
         clear hb hs Cw5 kCw5 cC0 cC1 fC0 fC1 Dw5 kDw5 cD0 cD1 fD0 fD1 Rw5 kRw5 cR0 cR1 fR0 fR1 Uw5 Vw5
         obtain ⟨cR0, cR1, fR0, fR1⟩ := Rw7.two
         have kRw7 : (w4.heap.size + 1) < w7.heap.size := Rw7.lt
         have kkRw7 : w4.heap.size < w7.heap.size := by omega))
    refine wp_worldD ?_
    intro w6 hw6e
    have IL6 : IRow w6 g5 L.length L := by
      rw [hw6e]
      refine (Lw7.out.other _ fun hn b o e => ?_).other _ fun hn b o e => ?_
      all_goals have := hg5 hn b o e; simp at this ⊢; omega
    have hw6 : Below w.heap.size w w6 := by
      rw [hw6e]
      exact (hw7.setCell (by simp; have := hw4.size; omega) _).setCell (by simp; have := hw4.size; omega) _
    have R6 : Blk w6 (w4.heap.size + 1) #[.bool nl, .slice g5 L.length c5] 37 := by
      rw [hw6e]
      exact (Rw7.set 0 _).set 1 _
    clear hw6e cR0 cR1 fR0 fR1
    obtain ⟨cR0, cR1, fR0, fR1⟩ := R6.two
    have kR6 : (w4.heap.size + 1) < w6.heap.size := R6.lt
    go_wp2_with (go_at_call 14; with_reducible refine (FT.out g5 c5 _ IL6 hc5 hn5).mono ?_; rintro e w9 ⟨rfl, hb⟩
                 have hw9 := hw6.trans (hb.mono hw6.size)
                 clear hb)
    refine bodyPost_ret (v := .tuple #[.int .i64 f1, .int .i64 f2, .int .i64 0]) (by simp [results, Tryz.results29, go_sem]) rfl ⟨rfl, ?_⟩
    exact hw9
set_option maxRecDepth 100000 in
set_option maxHeartbeats 1000000 in
theorem do2_any (n k : Int) (s t : Nat) (ha : Rt n s) (hB : Rt k t) (w : World) : Calls Tryz.prog 29 #[.int .i64 2, .int .i64 n, .int .i64 (s : Int), .int .i64 k, .int .i64 (t : Int)] w fun e w' =>
    e = .returned (.tuple #[.int .i64 (mulF n s k t).1, .int .i64 (mulF n s k t).2.1, .int .i64 (mulF n s k t).2.2]) ∧ Below w.heap.size w w' := by
  obtain ⟨na, nb, gX, nX, lX⟩ := rt_digs ha
  obtain ⟨ka, kb, gY, nY, lY⟩ := rt_digs hB
  have s9 : s ≤ 9 := by have := ha.s9; omega
  have t9 : t ≤ 9 := by have := hB.s9; omega
  clear ha hB
  obtain ⟨M, hM⟩ : ∃ M, M = max s t := ⟨_, rfl⟩
  have hM9 : M ≤ 9 := by omega
  have hmax : max (s : Int) (t : Int) = (M : Int) := by omega
  have hmax2 : max s t = M := hM.symm
  have sM : s ≤ M := by omega
  have tM : t ≤ M := by omega
  have HM := Lib.hid hM
  clear hM
  have q1 : ((M - s : Nat) : Int) = (M : Int) - (s : Int) := by omega
  have q2 : ((M - t : Nat) : Int) = (M : Int) - (t : Int) := by omega
  have j1 : IntKind.i64.wrap ((M : Int) - (s : Int)) = (M : Int) - (s : Int) := IntWalk.i64_in _ (by omega)
  have j2 : IntKind.i64.wrap ((M : Int) - (t : Int)) = (M : Int) - (t : Int) := IntWalk.i64_in _ (by omega)
  have vX := sgnD_digs n
  have vY := sgnD_digs k
  have OA := Lib.hid (fun w => of_big n na nb w)
  have OB := Lib.hid (fun w => of_big k ka kb w)
  have hk0 : dval (digs k.natAbs) = (k.natAbs : Int) := (digs_spec _).1
  obtain ⟨b1, hb1⟩ : ∃ b1, b1 = decide (n < 0) := ⟨_, rfl⟩
  obtain ⟨b2, hb2⟩ : ∃ b2, b2 = decide (k < 0) := ⟨_, rfl⟩
  obtain ⟨X, hX⟩ : ∃ X, X = digs n.natAbs := ⟨_, rfl⟩
  obtain ⟨Y, hY⟩ : ∃ Y, Y = digs k.natAbs := ⟨_, rfl⟩
  rw [← hb1, ← hX] at OA vX
  rw [← hb2, ← hY] at OB vY
  rw [← hX] at gX nX lX
  rw [← hY] at gY nY lY hk0
  clear hb1 hb2 hX hY na nb ka kb
  have uX := sgnD_up (neg := b1) gX nX (M - s)
  have uY := sgnD_up (neg := b2) gY nY (M - t)
  obtain ⟨-, gU, nU, lU⟩ := upL_spec gX nX (M - s)
  obtain ⟨vV, gV, nV, lV⟩ := upL_spec gY nY (M - t)
  have UX := Lib.hid (fun g c w h h1 h2 => up_big b1 g c X (M - s) w h h1 h2 (by omega) (by omega))
  have UY := Lib.hid (fun g c w h h1 h2 => up_big b2 g c Y (M - t) w h h1 h2 (by omega) (by omega))
  rw [vX] at uX
  rw [vY] at uY
  obtain ⟨U, hU⟩ : ∃ U, U = upL X (M - s) := ⟨_, rfl⟩
  obtain ⟨V, hV⟩ : ∃ V, V = upL Y (M - t) := ⟨_, rfl⟩
  rw [← hU] at uX gU nU lU UX
  rw [← hV] at uY gV nV lV UY vV
  have lU2 : U.length ≤ 28 := by omega
  have lV2 : V.length ≤ 28 := by omega
  simp only [q1] at UX
  simp only [q2] at UY
  clear hU hV lU lV q1 q2
  obtain ⟨gL, lL, hs1⟩ := prod_spec b1 b2 gX gY
  have MU := Lib.hid (fun a b c d w h1 h2 h3 h4 => mul_big b1 b2 a b c d X Y w h1 h2 h3 h4 gX gY nY (by omega) (by omega))
  rw [vX, vY] at hs1
  obtain ⟨nl, hnl⟩ : ∃ nl, nl = (!(b1 == b2)) := ⟨_, rfl⟩
  obtain ⟨L, hL⟩ : ∃ L, L = digs ((dval X).toNat * (dval Y).toNat) := ⟨_, rfl⟩
  rw [← hnl, ← hL] at MU hs1
  rw [← hL] at gL lL
  have q3 : ((s + t : Nat) : Int) = (s : Int) + (t : Int) := by omega
  have j3 : IntKind.i64.wrap ((s : Int) + (t : Int)) = (s : Int) + (t : Int) := IntWalk.i64_in _ (by omega)
  have hfit : (if (fitD (nl) (L) (s + t)).2.2 then ((fitD (nl) (L) (s + t)).1, (fitD (nl) (L) (s + t)).2.1, (0 : Int)) else (0, 0, 53)) = mulF n s k t := by
    rw [fit_sgn (nl) gL (s + t)]
    rw [hs1]
    exact doc_mul n k s t
  obtain ⟨r1, r2, r3, hr⟩ : ∃ r1 r2 r3, mulF n s k t = (r1, r2, r3) := ⟨_, _, _, rfl⟩
  rw [hr] at hfit ⊢
  obtain ⟨f1, f2, f3, hf⟩ : ∃ f1 f2 f3, fitD (nl) (L) (s + t) = (f1, f2, f3) := ⟨_, _, _, rfl⟩
  rw [hf] at hfit
  have FT := Lib.hid (fun g c w h1 h2 h3 => fit_big nl g c L (s + t) w h1 h2 h3 gL (by omega) (by omega) hf)
  simp only [q3] at FT
  clear q3 hf hr vX vY uX uY gX gY gU gV gL nX nY nU nV vV hk0 hs1 hnl hL
  cases f3
  · simp only [Bool.false_eq_true, if_false, if_true, Prod.mk.injEq] at hfit
    obtain ⟨rfl, rfl, rfl⟩ := hfit
    have hw : Below w.heap.size w w := Below.refl _ _
    go_enter Tryz.func29, Tryz.ntmps29
    go_upto_region 28 with (first
      | (go_at_call 15
         with_reducible refine (OA.out _).mono ?_
         rintro e w1 ⟨g1, c1, rfl, IX, hc1, hn1, -, hb⟩
         have hs := hb
         have hw1 : Below w.heap.size w w1 := hw.trans (hs.mono hw.size)
         have Xw1 := Lib.hid IX
         clear IX
         clear hb hs)
      | (go_at_call 15
         with_reducible refine (OB.out _).mono ?_
         rintro e w2 ⟨g2, c2, rfl, IY, hc2, hn2, -, hb⟩
         have hs : Below w1.heap.size w1 w2 := ((Below.refl _ _).alloc (Nat.le_refl _) _).trans (hb.mono (by simp; try omega))
         have hw2 : Below w.heap.size w w2 := hw1.trans (hs.mono hw1.size)
         have Aw2 : Blk w2 w1.heap.size #[.bool b1, .slice g1 X.length c1] 37 := (Blk.here rfl rfl).below hb (by simp; try omega)
         have Xw2 := Lib.hid (Xw1.out.below hs (Nat.le_refl _))
         have Yw2 := Lib.hid IY
         clear IY
         clear hb hs Xw1
         obtain ⟨cA0, cA1, fA0, fA1⟩ := Aw2.two
         have kAw2 : w1.heap.size < w2.heap.size := Aw2.lt)
      | (go_at_call 50
         with_reducible refine (UX.out g1 c1 _ (Xw2.out.below ((Below.refl _ _).alloc (Nat.le_refl _) _) (Nat.le_refl _)) hc1 hn1).mono ?_
         rintro e w3 ⟨g3, c3, rfl, IU, hc3, hn3, -, hb⟩
         have hs : Below w2.heap.size w2 w3 := ((Below.refl _ _).alloc (Nat.le_refl _) _).trans (hb.mono (by simp; try omega))
         have hw3 : Below w.heap.size w w3 := hw2.trans (hs.mono hw2.size)
         have Aw3 := Aw2.below hs kAw2
         have Bw3 : Blk w3 w2.heap.size #[.bool b2, .slice g2 Y.length c2] 37 := (Blk.here rfl rfl).below hb (by simp; try omega)
         have Xw3 := Lib.hid (Xw2.out.below hs (Nat.le_refl _))
         have Yw3 := Lib.hid (Yw2.out.below hs (Nat.le_refl _))
         have Uw3 := Lib.hid IU
         clear IU
         clear hb hs Aw2 kAw2 cA0 cA1 fA0 fA1 Xw2 Yw2
         obtain ⟨cA0, cA1, fA0, fA1⟩ := Aw3.two
         have kAw3 : w1.heap.size < w3.heap.size := Aw3.lt
         obtain ⟨cB0, cB1, fB0, fB1⟩ := Bw3.two
         have kBw3 : w2.heap.size < w3.heap.size := Bw3.lt)
      | (go_at_call 50
         with_reducible refine (UY.out g2 c2 _ (Yw3.out.below ((Below.refl _ _).alloc (Nat.le_refl _) _) (Nat.le_refl _)) hc2 hn2).mono ?_
         rintro e w4 ⟨g4, c4, rfl, IV, hc4, hn4, -, hb⟩
         have hs : Below w3.heap.size w3 w4 := ((Below.refl _ _).alloc (Nat.le_refl _) _).trans (hb.mono (by simp; try omega))
         have hw4 : Below w.heap.size w w4 := hw3.trans (hs.mono hw3.size)
         have Aw4 := Aw3.below hs kAw3
         have Bw4 := Bw3.below hs kBw3
         have Cw4 : Blk w4 w3.heap.size #[.bool b1, .slice g3 U.length c3] 37 := (Blk.here rfl rfl).below hb (by simp; try omega)
         have Xw4 := Lib.hid (Xw3.out.below hs (Nat.le_refl _))
         have Yw4 := Lib.hid (Yw3.out.below hs (Nat.le_refl _))
         have Uw4 := Lib.hid (Uw3.out.below hs (Nat.le_refl _))
         have Vw4 := Lib.hid IV
         clear IV
         clear hb hs Aw3 kAw3 cA0 cA1 fA0 fA1 Bw3 kBw3 cB0 cB1 fB0 fB1 Xw3 Yw3 Uw3
         obtain ⟨cA0, cA1, fA0, fA1⟩ := Aw4.two
         have kAw4 : w1.heap.size < w4.heap.size := Aw4.lt
         obtain ⟨cB0, cB1, fB0, fB1⟩ := Bw4.two
         have kBw4 : w2.heap.size < w4.heap.size := Bw4.lt
         obtain ⟨cC0, cC1, fC0, fC1⟩ := Cw4.two
         have kCw4 : w3.heap.size < w4.heap.size := Cw4.lt)
      | (go_at_call 52
         with_reducible refine (MU.out g1 g2 c1 c2 _ (Xw4.out.below (((Below.refl _ _).alloc (Nat.le_refl _) _).alloc (by simp; try omega) _) (Nat.le_refl _)) (Yw4.out.below (((Below.refl _ _).alloc (Nat.le_refl _) _).alloc (by simp; try omega) _) (Nat.le_refl _)) hc2 hn2).mono ?_
         rintro e w5 ⟨g5, c5, rfl, IL, hc5, hn5, hg5, hb⟩
         have hs : Below w4.heap.size w4 w5 := (((Below.refl _ _).alloc (Nat.le_refl _) _).alloc (by simp; try omega) _).trans (hb.mono (by simp; try omega))
         have hw5 : Below w.heap.size w w5 := hw4.trans (hs.mono hw4.size)
         have Rw5 : Blk w5 (w4.heap.size + 1) #[.bool false, .slice none 0 0] 37 := (Blk.here rfl (by simp)).below hb (by simp; try omega)
         have Lw5 := Lib.hid IL
         clear IL
         clear hb hs Aw4 kAw4 cA0 cA1 fA0 fA1 Bw4 kBw4 cB0 cB1 fB0 fB1 Cw4 kCw4 cC0 cC1 fC0 fC1 Xw4 Yw4 Uw4 Vw4
         obtain ⟨cR0, cR1, fR0, fR1⟩ := Rw5.two
         have kRw5 : (w4.heap.size + 1) < w5.heap.size := Rw5.lt
         have kkRw5 : w4.heap.size < w5.heap.size := by omega))
    refine wp_worldD ?_
    intro w6 hw6e
    have IL6 : IRow w6 g5 L.length L := by
      rw [hw6e]
      refine (Lw5.out.other _ fun hn b o e => ?_).other _ fun hn b o e => ?_
      all_goals have := hg5 hn b o e; simp at this ⊢; omega
    have hw6 : Below w.heap.size w w6 := by
      rw [hw6e]
      exact (hw5.setCell (by simp; have := hw4.size; omega) _).setCell (by simp; have := hw4.size; omega) _
    have R6 : Blk w6 (w4.heap.size + 1) #[.bool nl, .slice g5 L.length c5] 37 := by
      rw [hw6e]
      exact (Rw5.set 0 _).set 1 _
    clear hw6e cR0 cR1 fR0 fR1
    obtain ⟨cR0, cR1, fR0, fR1⟩ := R6.two
    have kR6 : (w4.heap.size + 1) < w6.heap.size := R6.lt
    go_wp2_with (go_at_call 14; with_reducible refine (FT.out g5 c5 _ IL6 hc5 hn5).mono ?_; rintro e w9 ⟨rfl, hb⟩
                 have hw9 := hw6.trans (hb.mono hw6.size)
                 clear hb)
    refine bodyPost_ret (v := .tuple #[.int .i64 0, .int .i64 0, .int .i64 53]) (by simp [results, Tryz.results29, go_sem]) rfl ⟨rfl, ?_⟩
    exact hw9
  · simp only [Bool.false_eq_true, if_false, if_true, Prod.mk.injEq] at hfit
    obtain ⟨rfl, rfl, rfl⟩ := hfit
    have hw : Below w.heap.size w w := Below.refl _ _
    go_enter Tryz.func29, Tryz.ntmps29
    go_upto_region 28 with (first
      | (go_at_call 15
         with_reducible refine (OA.out _).mono ?_
         rintro e w1 ⟨g1, c1, rfl, IX, hc1, hn1, -, hb⟩
         have hs := hb
         have hw1 : Below w.heap.size w w1 := hw.trans (hs.mono hw.size)
         have Xw1 := Lib.hid IX
         clear IX
         clear hb hs)
      | (go_at_call 15
         with_reducible refine (OB.out _).mono ?_
         rintro e w2 ⟨g2, c2, rfl, IY, hc2, hn2, -, hb⟩
         have hs : Below w1.heap.size w1 w2 := ((Below.refl _ _).alloc (Nat.le_refl _) _).trans (hb.mono (by simp; try omega))
         have hw2 : Below w.heap.size w w2 := hw1.trans (hs.mono hw1.size)
         have Aw2 : Blk w2 w1.heap.size #[.bool b1, .slice g1 X.length c1] 37 := (Blk.here rfl rfl).below hb (by simp; try omega)
         have Xw2 := Lib.hid (Xw1.out.below hs (Nat.le_refl _))
         have Yw2 := Lib.hid IY
         clear IY
         clear hb hs Xw1
         obtain ⟨cA0, cA1, fA0, fA1⟩ := Aw2.two
         have kAw2 : w1.heap.size < w2.heap.size := Aw2.lt)
      | (go_at_call 50
         with_reducible refine (UX.out g1 c1 _ (Xw2.out.below ((Below.refl _ _).alloc (Nat.le_refl _) _) (Nat.le_refl _)) hc1 hn1).mono ?_
         rintro e w3 ⟨g3, c3, rfl, IU, hc3, hn3, -, hb⟩
         have hs : Below w2.heap.size w2 w3 := ((Below.refl _ _).alloc (Nat.le_refl _) _).trans (hb.mono (by simp; try omega))
         have hw3 : Below w.heap.size w w3 := hw2.trans (hs.mono hw2.size)
         have Aw3 := Aw2.below hs kAw2
         have Bw3 : Blk w3 w2.heap.size #[.bool b2, .slice g2 Y.length c2] 37 := (Blk.here rfl rfl).below hb (by simp; try omega)
         have Xw3 := Lib.hid (Xw2.out.below hs (Nat.le_refl _))
         have Yw3 := Lib.hid (Yw2.out.below hs (Nat.le_refl _))
         have Uw3 := Lib.hid IU
         clear IU
         clear hb hs Aw2 kAw2 cA0 cA1 fA0 fA1 Xw2 Yw2
         obtain ⟨cA0, cA1, fA0, fA1⟩ := Aw3.two
         have kAw3 : w1.heap.size < w3.heap.size := Aw3.lt
         obtain ⟨cB0, cB1, fB0, fB1⟩ := Bw3.two
         have kBw3 : w2.heap.size < w3.heap.size := Bw3.lt)
      | (go_at_call 50
         with_reducible refine (UY.out g2 c2 _ (Yw3.out.below ((Below.refl _ _).alloc (Nat.le_refl _) _) (Nat.le_refl _)) hc2 hn2).mono ?_
         rintro e w4 ⟨g4, c4, rfl, IV, hc4, hn4, -, hb⟩
         have hs : Below w3.heap.size w3 w4 := ((Below.refl _ _).alloc (Nat.le_refl _) _).trans (hb.mono (by simp; try omega))
         have hw4 : Below w.heap.size w w4 := hw3.trans (hs.mono hw3.size)
         have Aw4 := Aw3.below hs kAw3
         have Bw4 := Bw3.below hs kBw3
         have Cw4 : Blk w4 w3.heap.size #[.bool b1, .slice g3 U.length c3] 37 := (Blk.here rfl rfl).below hb (by simp; try omega)
         have Xw4 := Lib.hid (Xw3.out.below hs (Nat.le_refl _))
         have Yw4 := Lib.hid (Yw3.out.below hs (Nat.le_refl _))
         have Uw4 := Lib.hid (Uw3.out.below hs (Nat.le_refl _))
         have Vw4 := Lib.hid IV
         clear IV
         clear hb hs Aw3 kAw3 cA0 cA1 fA0 fA1 Bw3 kBw3 cB0 cB1 fB0 fB1 Xw3 Yw3 Uw3
         obtain ⟨cA0, cA1, fA0, fA1⟩ := Aw4.two
         have kAw4 : w1.heap.size < w4.heap.size := Aw4.lt
         obtain ⟨cB0, cB1, fB0, fB1⟩ := Bw4.two
         have kBw4 : w2.heap.size < w4.heap.size := Bw4.lt
         obtain ⟨cC0, cC1, fC0, fC1⟩ := Cw4.two
         have kCw4 : w3.heap.size < w4.heap.size := Cw4.lt)
      | (go_at_call 52
         with_reducible refine (MU.out g1 g2 c1 c2 _ (Xw4.out.below (((Below.refl _ _).alloc (Nat.le_refl _) _).alloc (by simp; try omega) _) (Nat.le_refl _)) (Yw4.out.below (((Below.refl _ _).alloc (Nat.le_refl _) _).alloc (by simp; try omega) _) (Nat.le_refl _)) hc2 hn2).mono ?_
         rintro e w5 ⟨g5, c5, rfl, IL, hc5, hn5, hg5, hb⟩
         have hs : Below w4.heap.size w4 w5 := (((Below.refl _ _).alloc (Nat.le_refl _) _).alloc (by simp; try omega) _).trans (hb.mono (by simp; try omega))
         have hw5 : Below w.heap.size w w5 := hw4.trans (hs.mono hw4.size)
         have Rw5 : Blk w5 (w4.heap.size + 1) #[.bool false, .slice none 0 0] 37 := (Blk.here rfl (by simp)).below hb (by simp; try omega)
         have Lw5 := Lib.hid IL
         clear IL
         clear hb hs Aw4 kAw4 cA0 cA1 fA0 fA1 Bw4 kBw4 cB0 cB1 fB0 fB1 Cw4 kCw4 cC0 cC1 fC0 fC1 Xw4 Yw4 Uw4 Vw4
         obtain ⟨cR0, cR1, fR0, fR1⟩ := Rw5.two
         have kRw5 : (w4.heap.size + 1) < w5.heap.size := Rw5.lt
         have kkRw5 : w4.heap.size < w5.heap.size := by omega))
    refine wp_worldD ?_
    intro w6 hw6e
    have IL6 : IRow w6 g5 L.length L := by
      rw [hw6e]
      refine (Lw5.out.other _ fun hn b o e => ?_).other _ fun hn b o e => ?_
      all_goals have := hg5 hn b o e; simp at this ⊢; omega
    have hw6 : Below w.heap.size w w6 := by
      rw [hw6e]
      exact (hw5.setCell (by simp; have := hw4.size; omega) _).setCell (by simp; have := hw4.size; omega) _
    have R6 : Blk w6 (w4.heap.size + 1) #[.bool nl, .slice g5 L.length c5] 37 := by
      rw [hw6e]
      exact (Rw5.set 0 _).set 1 _
    clear hw6e cR0 cR1 fR0 fR1
    obtain ⟨cR0, cR1, fR0, fR1⟩ := R6.two
    have kR6 : (w4.heap.size + 1) < w6.heap.size := R6.lt
    go_wp2_with (go_at_call 14; with_reducible refine (FT.out g5 c5 _ IL6 hc5 hn5).mono ?_; rintro e w9 ⟨rfl, hb⟩
                 have hw9 := hw6.trans (hb.mono hw6.size)
                 clear hb)
    refine bodyPost_ret (v := .tuple #[.int .i64 f1, .int .i64 f2, .int .i64 0]) (by simp [results, Tryz.results29, go_sem]) rfl ⟨rfl, ?_⟩
    exact hw9
set_option maxRecDepth 100000 in
set_option maxHeartbeats 1000000 in
theorem do4_any (n k : Int) (s t : Nat) (ha : Rt n s) (hB : Rt k t) (w : World) : Calls Tryz.prog 29 #[.int .i64 4, .int .i64 n, .int .i64 (s : Int), .int .i64 k, .int .i64 (t : Int)] w fun e w' =>
    e = .returned (.tuple #[.int .i64 (idivF n s k t).1, .int .i64 (idivF n s k t).2.1, .int .i64 (idivF n s k t).2.2]) ∧ Below w.heap.size w w' := by
  obtain ⟨na, nb, gX, nX, lX⟩ := rt_digs ha
  obtain ⟨ka, kb, gY, nY, lY⟩ := rt_digs hB
  have s9 : s ≤ 9 := by have := ha.s9; omega
  have t9 : t ≤ 9 := by have := hB.s9; omega
  clear ha hB
  obtain ⟨M, hM⟩ : ∃ M, M = max s t := ⟨_, rfl⟩
  have hM9 : M ≤ 9 := by omega
  have hmax : max (s : Int) (t : Int) = (M : Int) := by omega
  have hmax2 : max s t = M := hM.symm
  have sM : s ≤ M := by omega
  have tM : t ≤ M := by omega
  have HM := Lib.hid hM
  clear hM
  have q1 : ((M - s : Nat) : Int) = (M : Int) - (s : Int) := by omega
  have q2 : ((M - t : Nat) : Int) = (M : Int) - (t : Int) := by omega
  have j1 : IntKind.i64.wrap ((M : Int) - (s : Int)) = (M : Int) - (s : Int) := IntWalk.i64_in _ (by omega)
  have j2 : IntKind.i64.wrap ((M : Int) - (t : Int)) = (M : Int) - (t : Int) := IntWalk.i64_in _ (by omega)
  have vX := sgnD_digs n
  have vY := sgnD_digs k
  have OA := Lib.hid (fun w => of_big n na nb w)
  have OB := Lib.hid (fun w => of_big k ka kb w)
  have hk0 : dval (digs k.natAbs) = (k.natAbs : Int) := (digs_spec _).1
  obtain ⟨b1, hb1⟩ : ∃ b1, b1 = decide (n < 0) := ⟨_, rfl⟩
  obtain ⟨b2, hb2⟩ : ∃ b2, b2 = decide (k < 0) := ⟨_, rfl⟩
  obtain ⟨X, hX⟩ : ∃ X, X = digs n.natAbs := ⟨_, rfl⟩
  obtain ⟨Y, hY⟩ : ∃ Y, Y = digs k.natAbs := ⟨_, rfl⟩
  rw [← hb1, ← hX] at OA vX
  rw [← hb2, ← hY] at OB vY
  rw [← hX] at gX nX lX
  rw [← hY] at gY nY lY hk0
  clear hb1 hb2 hX hY na nb ka kb
  have uX := sgnD_up (neg := b1) gX nX (M - s)
  have uY := sgnD_up (neg := b2) gY nY (M - t)
  obtain ⟨-, gU, nU, lU⟩ := upL_spec gX nX (M - s)
  obtain ⟨vV, gV, nV, lV⟩ := upL_spec gY nY (M - t)
  have UX := Lib.hid (fun g c w h h1 h2 => up_big b1 g c X (M - s) w h h1 h2 (by omega) (by omega))
  have UY := Lib.hid (fun g c w h h1 h2 => up_big b2 g c Y (M - t) w h h1 h2 (by omega) (by omega))
  rw [vX] at uX
  rw [vY] at uY
  obtain ⟨U, hU⟩ : ∃ U, U = upL X (M - s) := ⟨_, rfl⟩
  obtain ⟨V, hV⟩ : ∃ V, V = upL Y (M - t) := ⟨_, rfl⟩
  rw [← hU] at uX gU nU lU UX
  rw [← hV] at uY gV nV lV UY vV
  have lU2 : U.length ≤ 28 := by omega
  have lV2 : V.length ≤ 28 := by omega
  simp only [q1] at UX
  simp only [q2] at UY
  clear hU hV lU lV q1 q2
  cases ek : (k == 0)
  · have hk' : k ≠ 0 := by simpa using ek
    have hkY : 0 < dval Y := by
      rcases Int.lt_or_le 0 (dval Y) with h | h
      · exact h
      · have h1 := dval_nonneg gY
        have h2 : sgnD b2 Y = 0 := by rw [sgnD_val gY]; split <;> omega
        omega
    have hV0 : 0 < dval V := by rw [vV]; exact Int.mul_pos hkY (pow10_pos _)
    have nV0 : V ≠ [] := fun h => by rw [h] at hV0; simp [dval] at hV0
    obtain ⟨gQ, gR', lQ, lR, hsQ, hsR⟩ := quo_spec b1 b2 gU gV hV0
    have DV := Lib.hid (fun a b c d w h1 h2 => div_big b1 b2 a b c d U V w h1 h2 gU gV nV nV0 (by omega) (by omega))
    rw [uX, uY] at hsQ hsR
    obtain ⟨nq, hnq⟩ : ∃ nq, nq = (!(b1 == b2)) := ⟨_, rfl⟩
    obtain ⟨Q, hQ⟩ : ∃ Q, Q = digs ((dval U).toNat / (dval V).toNat) := ⟨_, rfl⟩
    obtain ⟨R, hR⟩ : ∃ R, R = digs ((dval U).toNat % (dval V).toNat) := ⟨_, rfl⟩
    rw [← hnq, ← hQ, ← hR] at DV
    rw [← hnq, ← hQ] at hsQ
    rw [← hR] at hsR gR' lR
    rw [← hQ] at gQ lQ
    clear hkY hV0 nV0
    obtain ⟨nl, hnl⟩ : ∃ nl, nl = nq := ⟨_, rfl⟩
    obtain ⟨L, hL⟩ : ∃ L, L = Q := ⟨_, rfl⟩
    have gL : Dg L := by rw [hL]; exact gQ
    have lL : L.length ≤ 1000 := by rw [hL]; omega
    have hs1 := hsQ
    rw [← hnl, ← hL] at hs1
    have hfit : (if (fitD (nl) (L) (0)).2.2 then ((fitD (nl) (L) (0)).1, (fitD (nl) (L) (0)).2.1, (0 : Int)) else (0, 0, 53)) = idivF n s k t := by
      rw [fit_sgn (nl) gL (0)]
      rw [hs1]
      exact doc_idiv HM.out hk'
    obtain ⟨r1, r2, r3, hr⟩ : ∃ r1 r2 r3, idivF n s k t = (r1, r2, r3) := ⟨_, _, _, rfl⟩
    rw [hr] at hfit ⊢
    obtain ⟨f1, f2, f3, hf⟩ : ∃ f1 f2 f3, fitD (nl) (L) (0) = (f1, f2, f3) := ⟨_, _, _, rfl⟩
    rw [hf] at hfit
    have FT := Lib.hid (fun g c w h1 h2 h3 => fit_big nl g c L (0) w h1 h2 h3 gL (by omega) (by omega) hf)
    simp only [Int.natCast_zero] at FT
    clear hf hr vX vY uX uY gX gY gU gV gL nX nY nU nV vV hk0 hs1 hnq hQ hR hsQ hsR gQ gR' hk'
    cases f3
    · simp only [Bool.false_eq_true, if_false, if_true, Prod.mk.injEq] at hfit
      obtain ⟨rfl, rfl, rfl⟩ := hfit
      have hw : Below w.heap.size w w := Below.refl _ _
      go_enter Tryz.func29, Tryz.ntmps29
      go_upto_region 28 with (first
        | (go_at_call 15
           with_reducible refine (OA.out _).mono ?_
           rintro e w1 ⟨g1, c1, rfl, IX, hc1, hn1, -, hb⟩
           have hs := hb
           have hw1 : Below w.heap.size w w1 := hw.trans (hs.mono hw.size)
           have Xw1 := Lib.hid IX
           clear IX
           clear hb hs)
        | (go_at_call 15
           with_reducible refine (OB.out _).mono ?_
           rintro e w2 ⟨g2, c2, rfl, IY, hc2, hn2, -, hb⟩
           have hs : Below w1.heap.size w1 w2 := ((Below.refl _ _).alloc (Nat.le_refl _) _).trans (hb.mono (by simp; try omega))
           have hw2 : Below w.heap.size w w2 := hw1.trans (hs.mono hw1.size)
           have Aw2 : Blk w2 w1.heap.size #[.bool b1, .slice g1 X.length c1] 37 := (Blk.here rfl rfl).below hb (by simp; try omega)
           have Xw2 := Lib.hid (Xw1.out.below hs (Nat.le_refl _))
           have Yw2 := Lib.hid IY
           clear IY
           clear hb hs Xw1
           obtain ⟨cA0, cA1, fA0, fA1⟩ := Aw2.two
           have kAw2 : w1.heap.size < w2.heap.size := Aw2.lt)
        | (go_at_call 50
           with_reducible refine (UX.out g1 c1 _ (Xw2.out.below ((Below.refl _ _).alloc (Nat.le_refl _) _) (Nat.le_refl _)) hc1 hn1).mono ?_
           rintro e w3 ⟨g3, c3, rfl, IU, hc3, hn3, -, hb⟩
           have hs : Below w2.heap.size w2 w3 := ((Below.refl _ _).alloc (Nat.le_refl _) _).trans (hb.mono (by simp; try omega))
           have hw3 : Below w.heap.size w w3 := hw2.trans (hs.mono hw2.size)
           have Aw3 := Aw2.below hs kAw2
           have Bw3 : Blk w3 w2.heap.size #[.bool b2, .slice g2 Y.length c2] 37 := (Blk.here rfl rfl).below hb (by simp; try omega)
           have Xw3 := Lib.hid (Xw2.out.below hs (Nat.le_refl _))
           have Yw3 := Lib.hid (Yw2.out.below hs (Nat.le_refl _))
           have Uw3 := Lib.hid IU
           clear IU
           clear hb hs Aw2 kAw2 cA0 cA1 fA0 fA1 Xw2 Yw2
           obtain ⟨cA0, cA1, fA0, fA1⟩ := Aw3.two
           have kAw3 : w1.heap.size < w3.heap.size := Aw3.lt
           obtain ⟨cB0, cB1, fB0, fB1⟩ := Bw3.two
           have kBw3 : w2.heap.size < w3.heap.size := Bw3.lt)
        | (go_at_call 50
           with_reducible refine (UY.out g2 c2 _ (Yw3.out.below ((Below.refl _ _).alloc (Nat.le_refl _) _) (Nat.le_refl _)) hc2 hn2).mono ?_
           rintro e w4 ⟨g4, c4, rfl, IV, hc4, hn4, -, hb⟩
           have hs : Below w3.heap.size w3 w4 := ((Below.refl _ _).alloc (Nat.le_refl _) _).trans (hb.mono (by simp; try omega))
           have hw4 : Below w.heap.size w w4 := hw3.trans (hs.mono hw3.size)
           have Aw4 := Aw3.below hs kAw3
           have Bw4 := Bw3.below hs kBw3
           have Cw4 : Blk w4 w3.heap.size #[.bool b1, .slice g3 U.length c3] 37 := (Blk.here rfl rfl).below hb (by simp; try omega)
           have Xw4 := Lib.hid (Xw3.out.below hs (Nat.le_refl _))
           have Yw4 := Lib.hid (Yw3.out.below hs (Nat.le_refl _))
           have Uw4 := Lib.hid (Uw3.out.below hs (Nat.le_refl _))
           have Vw4 := Lib.hid IV
           clear IV
           clear hb hs Aw3 kAw3 cA0 cA1 fA0 fA1 Bw3 kBw3 cB0 cB1 fB0 fB1 Xw3 Yw3 Uw3
           obtain ⟨cA0, cA1, fA0, fA1⟩ := Aw4.two
           have kAw4 : w1.heap.size < w4.heap.size := Aw4.lt
           obtain ⟨cB0, cB1, fB0, fB1⟩ := Bw4.two
           have kBw4 : w2.heap.size < w4.heap.size := Bw4.lt
           obtain ⟨cC0, cC1, fC0, fC1⟩ := Cw4.two
           have kCw4 : w3.heap.size < w4.heap.size := Cw4.lt)
        | (go_at_call 53
           with_reducible refine (DV.out g3 g4 c3 c4 _ (Uw4.out.below (((Below.refl _ _).alloc (Nat.le_refl _) _).alloc (by simp; try omega) _) (Nat.le_refl _)) (Vw4.out.below (((Below.refl _ _).alloc (Nat.le_refl _) _).alloc (by simp; try omega) _) (Nat.le_refl _))).mono ?_
           rintro e w5 ⟨gq, cq, gr, cr, rfl, IQ, hcq, hnq, hgq, IR, hcr, hnr, hgr, hb⟩
           have hs : Below w4.heap.size w4 w5 := (((Below.refl _ _).alloc (Nat.le_refl _) _).alloc (by simp; try omega) _).trans (hb.mono (by simp; try omega))
           have hw5 : Below w.heap.size w w5 := hw4.trans (hs.mono hw4.size)
           have Rw5 : Blk w5 (w4.heap.size + 1) #[.bool false, .slice none 0 0] 37 := (Blk.here rfl (by simp)).below hb (by simp; try omega)
           have QQw5 := Lib.hid IQ
           clear IQ
           have RRw5 := Lib.hid IR
           clear IR
           clear hb hs Aw4 kAw4 cA0 cA1 fA0 fA1 Bw4 kBw4 cB0 cB1 fB0 fB1 Cw4 kCw4 cC0 cC1 fC0 fC1 Xw4 Yw4 Uw4 Vw4
           obtain ⟨cR0, cR1, fR0, fR1⟩ := Rw5.two
           have kRw5 : (w4.heap.size + 1) < w5.heap.size := Rw5.lt
           have kkRw5 : w4.heap.size < w5.heap.size := by omega))
      subst hnl hL
      refine wp_worldD ?_
      intro w6 hw6e
      have IL6 : IRow w6 gq L.length L := by
        rw [hw6e]
        refine ((QQw5.out.other _ fun hn b o e => ?_).other _ fun hn b o e => ?_).below (((Below.refl _ _).alloc (Nat.le_refl _) _).alloc (by simp) _) (Nat.le_refl _)
        all_goals have := hgq hn b o e; simp at this ⊢; omega
      have hw6 : Below w.heap.size w w6 := by
        rw [hw6e]
        have z4 := hw4.size
        have z5 := hw5.size
        exact (((hw5.setCell (by simp; omega) _).setCell (by simp; omega) _).alloc (by simp; omega) _).alloc (by simp; omega) _
      have R6 : Blk w6 (w4.heap.size + 1) #[.bool nl, .slice gq L.length cq] 37 := by
        rw [hw6e]
        exact (((Rw5.set 0 _).set 1 _).alloc _).alloc _
      clear hw6e cR0 cR1 fR0 fR1
      obtain ⟨cR0, cR1, fR0, fR1⟩ := R6.two
      have kR6 : (w4.heap.size + 1) < w6.heap.size := R6.lt
      go_wp2_with (go_at_call 14; with_reducible refine (FT.out gq cq _ IL6 hcq hnq).mono ?_; rintro e w9 ⟨rfl, hb⟩
                   have hw9 := hw6.trans (hb.mono hw6.size)
                   clear hb)
      refine bodyPost_ret (v := .tuple #[.int .i64 0, .int .i64 0, .int .i64 53]) (by simp [results, Tryz.results29, go_sem]) rfl ⟨rfl, ?_⟩
      exact hw9
    · simp only [Bool.false_eq_true, if_false, if_true, Prod.mk.injEq] at hfit
      obtain ⟨rfl, rfl, rfl⟩ := hfit
      have hw : Below w.heap.size w w := Below.refl _ _
      go_enter Tryz.func29, Tryz.ntmps29
      go_upto_region 28 with (first
        | (go_at_call 15
           with_reducible refine (OA.out _).mono ?_
           rintro e w1 ⟨g1, c1, rfl, IX, hc1, hn1, -, hb⟩
           have hs := hb
           have hw1 : Below w.heap.size w w1 := hw.trans (hs.mono hw.size)
           have Xw1 := Lib.hid IX
           clear IX
           clear hb hs)
        | (go_at_call 15
           with_reducible refine (OB.out _).mono ?_
           rintro e w2 ⟨g2, c2, rfl, IY, hc2, hn2, -, hb⟩
           have hs : Below w1.heap.size w1 w2 := ((Below.refl _ _).alloc (Nat.le_refl _) _).trans (hb.mono (by simp; try omega))
           have hw2 : Below w.heap.size w w2 := hw1.trans (hs.mono hw1.size)
           have Aw2 : Blk w2 w1.heap.size #[.bool b1, .slice g1 X.length c1] 37 := (Blk.here rfl rfl).below hb (by simp; try omega)
           have Xw2 := Lib.hid (Xw1.out.below hs (Nat.le_refl _))
           have Yw2 := Lib.hid IY
           clear IY
           clear hb hs Xw1
           obtain ⟨cA0, cA1, fA0, fA1⟩ := Aw2.two
           have kAw2 : w1.heap.size < w2.heap.size := Aw2.lt)
        | (go_at_call 50
           with_reducible refine (UX.out g1 c1 _ (Xw2.out.below ((Below.refl _ _).alloc (Nat.le_refl _) _) (Nat.le_refl _)) hc1 hn1).mono ?_
           rintro e w3 ⟨g3, c3, rfl, IU, hc3, hn3, -, hb⟩
           have hs : Below w2.heap.size w2 w3 := ((Below.refl _ _).alloc (Nat.le_refl _) _).trans (hb.mono (by simp; try omega))
           have hw3 : Below w.heap.size w w3 := hw2.trans (hs.mono hw2.size)
           have Aw3 := Aw2.below hs kAw2
           have Bw3 : Blk w3 w2.heap.size #[.bool b2, .slice g2 Y.length c2] 37 := (Blk.here rfl rfl).below hb (by simp; try omega)
           have Xw3 := Lib.hid (Xw2.out.below hs (Nat.le_refl _))
           have Yw3 := Lib.hid (Yw2.out.below hs (Nat.le_refl _))
           have Uw3 := Lib.hid IU
           clear IU
           clear hb hs Aw2 kAw2 cA0 cA1 fA0 fA1 Xw2 Yw2
           obtain ⟨cA0, cA1, fA0, fA1⟩ := Aw3.two
           have kAw3 : w1.heap.size < w3.heap.size := Aw3.lt
           obtain ⟨cB0, cB1, fB0, fB1⟩ := Bw3.two
           have kBw3 : w2.heap.size < w3.heap.size := Bw3.lt)
        | (go_at_call 50
           with_reducible refine (UY.out g2 c2 _ (Yw3.out.below ((Below.refl _ _).alloc (Nat.le_refl _) _) (Nat.le_refl _)) hc2 hn2).mono ?_
           rintro e w4 ⟨g4, c4, rfl, IV, hc4, hn4, -, hb⟩
           have hs : Below w3.heap.size w3 w4 := ((Below.refl _ _).alloc (Nat.le_refl _) _).trans (hb.mono (by simp; try omega))
           have hw4 : Below w.heap.size w w4 := hw3.trans (hs.mono hw3.size)
           have Aw4 := Aw3.below hs kAw3
           have Bw4 := Bw3.below hs kBw3
           have Cw4 : Blk w4 w3.heap.size #[.bool b1, .slice g3 U.length c3] 37 := (Blk.here rfl rfl).below hb (by simp; try omega)
           have Xw4 := Lib.hid (Xw3.out.below hs (Nat.le_refl _))
           have Yw4 := Lib.hid (Yw3.out.below hs (Nat.le_refl _))
           have Uw4 := Lib.hid (Uw3.out.below hs (Nat.le_refl _))
           have Vw4 := Lib.hid IV
           clear IV
           clear hb hs Aw3 kAw3 cA0 cA1 fA0 fA1 Bw3 kBw3 cB0 cB1 fB0 fB1 Xw3 Yw3 Uw3
           obtain ⟨cA0, cA1, fA0, fA1⟩ := Aw4.two
           have kAw4 : w1.heap.size < w4.heap.size := Aw4.lt
           obtain ⟨cB0, cB1, fB0, fB1⟩ := Bw4.two
           have kBw4 : w2.heap.size < w4.heap.size := Bw4.lt
           obtain ⟨cC0, cC1, fC0, fC1⟩ := Cw4.two
           have kCw4 : w3.heap.size < w4.heap.size := Cw4.lt)
        | (go_at_call 53
           with_reducible refine (DV.out g3 g4 c3 c4 _ (Uw4.out.below (((Below.refl _ _).alloc (Nat.le_refl _) _).alloc (by simp; try omega) _) (Nat.le_refl _)) (Vw4.out.below (((Below.refl _ _).alloc (Nat.le_refl _) _).alloc (by simp; try omega) _) (Nat.le_refl _))).mono ?_
           rintro e w5 ⟨gq, cq, gr, cr, rfl, IQ, hcq, hnq, hgq, IR, hcr, hnr, hgr, hb⟩
           have hs : Below w4.heap.size w4 w5 := (((Below.refl _ _).alloc (Nat.le_refl _) _).alloc (by simp; try omega) _).trans (hb.mono (by simp; try omega))
           have hw5 : Below w.heap.size w w5 := hw4.trans (hs.mono hw4.size)
           have Rw5 : Blk w5 (w4.heap.size + 1) #[.bool false, .slice none 0 0] 37 := (Blk.here rfl (by simp)).below hb (by simp; try omega)
           have QQw5 := Lib.hid IQ
           clear IQ
           have RRw5 := Lib.hid IR
           clear IR
           clear hb hs Aw4 kAw4 cA0 cA1 fA0 fA1 Bw4 kBw4 cB0 cB1 fB0 fB1 Cw4 kCw4 cC0 cC1 fC0 fC1 Xw4 Yw4 Uw4 Vw4
           obtain ⟨cR0, cR1, fR0, fR1⟩ := Rw5.two
           have kRw5 : (w4.heap.size + 1) < w5.heap.size := Rw5.lt
           have kkRw5 : w4.heap.size < w5.heap.size := by omega))
      subst hnl hL
      refine wp_worldD ?_
      intro w6 hw6e
      have IL6 : IRow w6 gq L.length L := by
        rw [hw6e]
        refine ((QQw5.out.other _ fun hn b o e => ?_).other _ fun hn b o e => ?_).below (((Below.refl _ _).alloc (Nat.le_refl _) _).alloc (by simp) _) (Nat.le_refl _)
        all_goals have := hgq hn b o e; simp at this ⊢; omega
      have hw6 : Below w.heap.size w w6 := by
        rw [hw6e]
        have z4 := hw4.size
        have z5 := hw5.size
        exact (((hw5.setCell (by simp; omega) _).setCell (by simp; omega) _).alloc (by simp; omega) _).alloc (by simp; omega) _
      have R6 : Blk w6 (w4.heap.size + 1) #[.bool nl, .slice gq L.length cq] 37 := by
        rw [hw6e]
        exact (((Rw5.set 0 _).set 1 _).alloc _).alloc _
      clear hw6e cR0 cR1 fR0 fR1
      obtain ⟨cR0, cR1, fR0, fR1⟩ := R6.two
      have kR6 : (w4.heap.size + 1) < w6.heap.size := R6.lt
      go_wp2_with (go_at_call 14; with_reducible refine (FT.out gq cq _ IL6 hcq hnq).mono ?_; rintro e w9 ⟨rfl, hb⟩
                   have hw9 := hw6.trans (hb.mono hw6.size)
                   clear hb)
      refine bodyPost_ret (v := .tuple #[.int .i64 f1, .int .i64 f2, .int .i64 0]) (by simp [results, Tryz.results29, go_sem]) rfl ⟨rfl, ?_⟩
      exact hw9
  · have hr : idivF n s k t = (0, 0, 52) := by unfold idivF; rw [ek]; rfl
    rw [hr]
    clear hr vX vY uX uY gX gY gU gV nX nY nU nV vV hk0
    have hw : Below w.heap.size w w := Below.refl _ _
    go_enter Tryz.func29, Tryz.ntmps29
    go_wp2_with (first
      | (go_at_call 15
         with_reducible refine (OA.out _).mono ?_
         rintro e w1 ⟨g1, c1, rfl, IX, hc1, hn1, -, hb⟩
         have hs := hb
         have hw1 : Below w.heap.size w w1 := hw.trans (hs.mono hw.size)
         have Xw1 := Lib.hid IX
         clear IX
         clear hb hs)
      | (go_at_call 15
         with_reducible refine (OB.out _).mono ?_
         rintro e w2 ⟨g2, c2, rfl, IY, hc2, hn2, -, hb⟩
         have hs : Below w1.heap.size w1 w2 := ((Below.refl _ _).alloc (Nat.le_refl _) _).trans (hb.mono (by simp; try omega))
         have hw2 : Below w.heap.size w w2 := hw1.trans (hs.mono hw1.size)
         have Aw2 : Blk w2 w1.heap.size #[.bool b1, .slice g1 X.length c1] 37 := (Blk.here rfl rfl).below hb (by simp; try omega)
         have Xw2 := Lib.hid (Xw1.out.below hs (Nat.le_refl _))
         have Yw2 := Lib.hid IY
         clear IY
         clear hb hs Xw1
         obtain ⟨cA0, cA1, fA0, fA1⟩ := Aw2.two
         have kAw2 : w1.heap.size < w2.heap.size := Aw2.lt)
      | (go_at_call 50
         with_reducible refine (UX.out g1 c1 _ (Xw2.out.below ((Below.refl _ _).alloc (Nat.le_refl _) _) (Nat.le_refl _)) hc1 hn1).mono ?_
         rintro e w3 ⟨g3, c3, rfl, IU, hc3, hn3, -, hb⟩
         have hs : Below w2.heap.size w2 w3 := ((Below.refl _ _).alloc (Nat.le_refl _) _).trans (hb.mono (by simp; try omega))
         have hw3 : Below w.heap.size w w3 := hw2.trans (hs.mono hw2.size)
         have Aw3 := Aw2.below hs kAw2
         have Bw3 : Blk w3 w2.heap.size #[.bool b2, .slice g2 Y.length c2] 37 := (Blk.here rfl rfl).below hb (by simp; try omega)
         have Xw3 := Lib.hid (Xw2.out.below hs (Nat.le_refl _))
         have Yw3 := Lib.hid (Yw2.out.below hs (Nat.le_refl _))
         have Uw3 := Lib.hid IU
         clear IU
         clear hb hs Aw2 kAw2 cA0 cA1 fA0 fA1 Xw2 Yw2
         obtain ⟨cA0, cA1, fA0, fA1⟩ := Aw3.two
         have kAw3 : w1.heap.size < w3.heap.size := Aw3.lt
         obtain ⟨cB0, cB1, fB0, fB1⟩ := Bw3.two
         have kBw3 : w2.heap.size < w3.heap.size := Bw3.lt)
      | (go_at_call 50
         with_reducible refine (UY.out g2 c2 _ (Yw3.out.below ((Below.refl _ _).alloc (Nat.le_refl _) _) (Nat.le_refl _)) hc2 hn2).mono ?_
         rintro e w4 ⟨g4, c4, rfl, IV, hc4, hn4, -, hb⟩
         have hs : Below w3.heap.size w3 w4 := ((Below.refl _ _).alloc (Nat.le_refl _) _).trans (hb.mono (by simp; try omega))
         have hw4 : Below w.heap.size w w4 := hw3.trans (hs.mono hw3.size)
         have Aw4 := Aw3.below hs kAw3
         have Bw4 := Bw3.below hs kBw3
         have Cw4 : Blk w4 w3.heap.size #[.bool b1, .slice g3 U.length c3] 37 := (Blk.here rfl rfl).below hb (by simp; try omega)
         have Xw4 := Lib.hid (Xw3.out.below hs (Nat.le_refl _))
         have Yw4 := Lib.hid (Yw3.out.below hs (Nat.le_refl _))
         have Uw4 := Lib.hid (Uw3.out.below hs (Nat.le_refl _))
         have Vw4 := Lib.hid IV
         clear IV
         clear hb hs Aw3 kAw3 cA0 cA1 fA0 fA1 Bw3 kBw3 cB0 cB1 fB0 fB1 Xw3 Yw3 Uw3
         obtain ⟨cA0, cA1, fA0, fA1⟩ := Aw4.two
         have kAw4 : w1.heap.size < w4.heap.size := Aw4.lt
         obtain ⟨cB0, cB1, fB0, fB1⟩ := Bw4.two
         have kBw4 : w2.heap.size < w4.heap.size := Bw4.lt
         obtain ⟨cC0, cC1, fC0, fC1⟩ := Cw4.two
         have kCw4 : w3.heap.size < w4.heap.size := Cw4.lt))
    refine bodyPost_ret (v := .tuple #[.int .i64 0, .int .i64 0, .int .i64 52]) (by simp [results, Tryz.results29, go_sem]) rfl ⟨rfl, ?_⟩
    exact hw4.alloc hw4.size _
set_option maxRecDepth 100000 in
set_option maxHeartbeats 1000000 in
theorem do5_any (n k : Int) (s t : Nat) (ha : Rt n s) (hB : Rt k t) (w : World) : Calls Tryz.prog 29 #[.int .i64 5, .int .i64 n, .int .i64 (s : Int), .int .i64 k, .int .i64 (t : Int)] w fun e w' =>
    e = .returned (.tuple #[.int .i64 (modF n s k t).1, .int .i64 (modF n s k t).2.1, .int .i64 (modF n s k t).2.2]) ∧ Below w.heap.size w w' := by
  obtain ⟨na, nb, gX, nX, lX⟩ := rt_digs ha
  obtain ⟨ka, kb, gY, nY, lY⟩ := rt_digs hB
  have s9 : s ≤ 9 := by have := ha.s9; omega
  have t9 : t ≤ 9 := by have := hB.s9; omega
  clear ha hB
  obtain ⟨M, hM⟩ : ∃ M, M = max s t := ⟨_, rfl⟩
  have hM9 : M ≤ 9 := by omega
  have hmax : max (s : Int) (t : Int) = (M : Int) := by omega
  have hmax2 : max s t = M := hM.symm
  have sM : s ≤ M := by omega
  have tM : t ≤ M := by omega
  have HM := Lib.hid hM
  clear hM
  have q1 : ((M - s : Nat) : Int) = (M : Int) - (s : Int) := by omega
  have q2 : ((M - t : Nat) : Int) = (M : Int) - (t : Int) := by omega
  have j1 : IntKind.i64.wrap ((M : Int) - (s : Int)) = (M : Int) - (s : Int) := IntWalk.i64_in _ (by omega)
  have j2 : IntKind.i64.wrap ((M : Int) - (t : Int)) = (M : Int) - (t : Int) := IntWalk.i64_in _ (by omega)
  have vX := sgnD_digs n
  have vY := sgnD_digs k
  have OA := Lib.hid (fun w => of_big n na nb w)
  have OB := Lib.hid (fun w => of_big k ka kb w)
  have hk0 : dval (digs k.natAbs) = (k.natAbs : Int) := (digs_spec _).1
  obtain ⟨b1, hb1⟩ : ∃ b1, b1 = decide (n < 0) := ⟨_, rfl⟩
  obtain ⟨b2, hb2⟩ : ∃ b2, b2 = decide (k < 0) := ⟨_, rfl⟩
  obtain ⟨X, hX⟩ : ∃ X, X = digs n.natAbs := ⟨_, rfl⟩
  obtain ⟨Y, hY⟩ : ∃ Y, Y = digs k.natAbs := ⟨_, rfl⟩
  rw [← hb1, ← hX] at OA vX
  rw [← hb2, ← hY] at OB vY
  rw [← hX] at gX nX lX
  rw [← hY] at gY nY lY hk0
  clear hb1 hb2 hX hY na nb ka kb
  have uX := sgnD_up (neg := b1) gX nX (M - s)
  have uY := sgnD_up (neg := b2) gY nY (M - t)
  obtain ⟨-, gU, nU, lU⟩ := upL_spec gX nX (M - s)
  obtain ⟨vV, gV, nV, lV⟩ := upL_spec gY nY (M - t)
  have UX := Lib.hid (fun g c w h h1 h2 => up_big b1 g c X (M - s) w h h1 h2 (by omega) (by omega))
  have UY := Lib.hid (fun g c w h h1 h2 => up_big b2 g c Y (M - t) w h h1 h2 (by omega) (by omega))
  rw [vX] at uX
  rw [vY] at uY
  obtain ⟨U, hU⟩ : ∃ U, U = upL X (M - s) := ⟨_, rfl⟩
  obtain ⟨V, hV⟩ : ∃ V, V = upL Y (M - t) := ⟨_, rfl⟩
  rw [← hU] at uX gU nU lU UX
  rw [← hV] at uY gV nV lV UY vV
  have lU2 : U.length ≤ 28 := by omega
  have lV2 : V.length ≤ 28 := by omega
  simp only [q1] at UX
  simp only [q2] at UY
  clear hU hV lU lV q1 q2
  cases ek : (k == 0)
  · have hk' : k ≠ 0 := by simpa using ek
    have hkY : 0 < dval Y := by
      rcases Int.lt_or_le 0 (dval Y) with h | h
      · exact h
      · have h1 := dval_nonneg gY
        have h2 : sgnD b2 Y = 0 := by rw [sgnD_val gY]; split <;> omega
        omega
    have hV0 : 0 < dval V := by rw [vV]; exact Int.mul_pos hkY (pow10_pos _)
    have nV0 : V ≠ [] := fun h => by rw [h] at hV0; simp [dval] at hV0
    obtain ⟨gQ, gR', lQ, lR, hsQ, hsR⟩ := quo_spec b1 b2 gU gV hV0
    have DV := Lib.hid (fun a b c d w h1 h2 => div_big b1 b2 a b c d U V w h1 h2 gU gV nV nV0 (by omega) (by omega))
    rw [uX, uY] at hsQ hsR
    obtain ⟨nq, hnq⟩ : ∃ nq, nq = (!(b1 == b2)) := ⟨_, rfl⟩
    obtain ⟨Q, hQ⟩ : ∃ Q, Q = digs ((dval U).toNat / (dval V).toNat) := ⟨_, rfl⟩
    obtain ⟨R, hR⟩ : ∃ R, R = digs ((dval U).toNat % (dval V).toNat) := ⟨_, rfl⟩
    rw [← hnq, ← hQ, ← hR] at DV
    rw [← hnq, ← hQ] at hsQ
    rw [← hR] at hsR gR' lR
    rw [← hQ] at gQ lQ
    clear hkY hV0 nV0
    obtain ⟨nl, hnl⟩ : ∃ nl, nl = b1 := ⟨_, rfl⟩
    obtain ⟨L, hL⟩ : ∃ L, L = R := ⟨_, rfl⟩
    have gL : Dg L := by rw [hL]; exact gR'
    have lL : L.length ≤ 1000 := by rw [hL]; omega
    have hs1 := hsR
    rw [← hnl, ← hL] at hs1
    have hfit : (if (fitD (nl) (L) (M)).2.2 then ((fitD (nl) (L) (M)).1, (fitD (nl) (L) (M)).2.1, (0 : Int)) else (0, 0, 53)) = modF n s k t := by
      rw [fit_sgn (nl) gL (M)]
      rw [hs1]
      exact doc_mod HM.out hk'
    obtain ⟨r1, r2, r3, hr⟩ : ∃ r1 r2 r3, modF n s k t = (r1, r2, r3) := ⟨_, _, _, rfl⟩
    rw [hr] at hfit ⊢
    obtain ⟨f1, f2, f3, hf⟩ : ∃ f1 f2 f3, fitD (nl) (L) (M) = (f1, f2, f3) := ⟨_, _, _, rfl⟩
    rw [hf] at hfit
    have FT := Lib.hid (fun g c w h1 h2 h3 => fit_big nl g c L (M) w h1 h2 h3 gL (by omega) (by omega) hf)
    clear hf hr vX vY uX uY gX gY gU gV gL nX nY nU nV vV hk0 hs1 hnq hQ hR hsQ hsR gQ gR' hk'
    cases f3
    · simp only [Bool.false_eq_true, if_false, if_true, Prod.mk.injEq] at hfit
      obtain ⟨rfl, rfl, rfl⟩ := hfit
      have hw : Below w.heap.size w w := Below.refl _ _
      go_enter Tryz.func29, Tryz.ntmps29
      go_upto_region 28 with (first
        | (go_at_call 15
           with_reducible refine (OA.out _).mono ?_
           rintro e w1 ⟨g1, c1, rfl, IX, hc1, hn1, -, hb⟩
           have hs := hb
           have hw1 : Below w.heap.size w w1 := hw.trans (hs.mono hw.size)
           have Xw1 := Lib.hid IX
           clear IX
           clear hb hs)
        | (go_at_call 15
           with_reducible refine (OB.out _).mono ?_
           rintro e w2 ⟨g2, c2, rfl, IY, hc2, hn2, -, hb⟩
           have hs : Below w1.heap.size w1 w2 := ((Below.refl _ _).alloc (Nat.le_refl _) _).trans (hb.mono (by simp; try omega))
           have hw2 : Below w.heap.size w w2 := hw1.trans (hs.mono hw1.size)
           have Aw2 : Blk w2 w1.heap.size #[.bool b1, .slice g1 X.length c1] 37 := (Blk.here rfl rfl).below hb (by simp; try omega)
           have Xw2 := Lib.hid (Xw1.out.below hs (Nat.le_refl _))
           have Yw2 := Lib.hid IY
           clear IY
           clear hb hs Xw1
           obtain ⟨cA0, cA1, fA0, fA1⟩ := Aw2.two
           have kAw2 : w1.heap.size < w2.heap.size := Aw2.lt)
        | (go_at_call 50
           with_reducible refine (UX.out g1 c1 _ (Xw2.out.below ((Below.refl _ _).alloc (Nat.le_refl _) _) (Nat.le_refl _)) hc1 hn1).mono ?_
           rintro e w3 ⟨g3, c3, rfl, IU, hc3, hn3, -, hb⟩
           have hs : Below w2.heap.size w2 w3 := ((Below.refl _ _).alloc (Nat.le_refl _) _).trans (hb.mono (by simp; try omega))
           have hw3 : Below w.heap.size w w3 := hw2.trans (hs.mono hw2.size)
           have Aw3 := Aw2.below hs kAw2
           have Bw3 : Blk w3 w2.heap.size #[.bool b2, .slice g2 Y.length c2] 37 := (Blk.here rfl rfl).below hb (by simp; try omega)
           have Xw3 := Lib.hid (Xw2.out.below hs (Nat.le_refl _))
           have Yw3 := Lib.hid (Yw2.out.below hs (Nat.le_refl _))
           have Uw3 := Lib.hid IU
           clear IU
           clear hb hs Aw2 kAw2 cA0 cA1 fA0 fA1 Xw2 Yw2
           obtain ⟨cA0, cA1, fA0, fA1⟩ := Aw3.two
           have kAw3 : w1.heap.size < w3.heap.size := Aw3.lt
           obtain ⟨cB0, cB1, fB0, fB1⟩ := Bw3.two
           have kBw3 : w2.heap.size < w3.heap.size := Bw3.lt)
        | (go_at_call 50
           with_reducible refine (UY.out g2 c2 _ (Yw3.out.below ((Below.refl _ _).alloc (Nat.le_refl _) _) (Nat.le_refl _)) hc2 hn2).mono ?_
           rintro e w4 ⟨g4, c4, rfl, IV, hc4, hn4, -, hb⟩
           have hs : Below w3.heap.size w3 w4 := ((Below.refl _ _).alloc (Nat.le_refl _) _).trans (hb.mono (by simp; try omega))
           have hw4 : Below w.heap.size w w4 := hw3.trans (hs.mono hw3.size)
           have Aw4 := Aw3.below hs kAw3
           have Bw4 := Bw3.below hs kBw3
           have Cw4 : Blk w4 w3.heap.size #[.bool b1, .slice g3 U.length c3] 37 := (Blk.here rfl rfl).below hb (by simp; try omega)
           have Xw4 := Lib.hid (Xw3.out.below hs (Nat.le_refl _))
           have Yw4 := Lib.hid (Yw3.out.below hs (Nat.le_refl _))
           have Uw4 := Lib.hid (Uw3.out.below hs (Nat.le_refl _))
           have Vw4 := Lib.hid IV
           clear IV
           clear hb hs Aw3 kAw3 cA0 cA1 fA0 fA1 Bw3 kBw3 cB0 cB1 fB0 fB1 Xw3 Yw3 Uw3
           obtain ⟨cA0, cA1, fA0, fA1⟩ := Aw4.two
           have kAw4 : w1.heap.size < w4.heap.size := Aw4.lt
           obtain ⟨cB0, cB1, fB0, fB1⟩ := Bw4.two
           have kBw4 : w2.heap.size < w4.heap.size := Bw4.lt
           obtain ⟨cC0, cC1, fC0, fC1⟩ := Cw4.two
           have kCw4 : w3.heap.size < w4.heap.size := Cw4.lt)
        | (go_at_call 53
           with_reducible refine (DV.out g3 g4 c3 c4 _ (Uw4.out.below (((Below.refl _ _).alloc (Nat.le_refl _) _).alloc (by simp; try omega) _) (Nat.le_refl _)) (Vw4.out.below (((Below.refl _ _).alloc (Nat.le_refl _) _).alloc (by simp; try omega) _) (Nat.le_refl _))).mono ?_
           rintro e w5 ⟨gq, cq, gr, cr, rfl, IQ, hcq, hnq, hgq, IR, hcr, hnr, hgr, hb⟩
           have hs : Below w4.heap.size w4 w5 := (((Below.refl _ _).alloc (Nat.le_refl _) _).alloc (by simp; try omega) _).trans (hb.mono (by simp; try omega))
           have hw5 : Below w.heap.size w w5 := hw4.trans (hs.mono hw4.size)
           have Rw5 : Blk w5 (w4.heap.size + 1) #[.bool false, .slice none 0 0] 37 := (Blk.here rfl (by simp)).below hb (by simp; try omega)
           have QQw5 := Lib.hid IQ
           clear IQ
           have RRw5 := Lib.hid IR
           clear IR
           clear hb hs Aw4 kAw4 cA0 cA1 fA0 fA1 Bw4 kBw4 cB0 cB1 fB0 fB1 Cw4 kCw4 cC0 cC1 fC0 fC1 Xw4 Yw4 Uw4 Vw4
           obtain ⟨cR0, cR1, fR0, fR1⟩ := Rw5.two
           have kRw5 : (w4.heap.size + 1) < w5.heap.size := Rw5.lt
           have kkRw5 : w4.heap.size < w5.heap.size := by omega))
      subst hnl hL
      refine wp_worldD ?_
      intro w6 hw6e
      have IL6 : IRow w6 gr L.length L := by
        rw [hw6e]
        refine ((RRw5.out.other _ fun hn b o e => ?_).other _ fun hn b o e => ?_).below (((Below.refl _ _).alloc (Nat.le_refl _) _).alloc (by simp) _) (Nat.le_refl _)
        all_goals have := hgr hn b o e; simp at this ⊢; omega
      have hw6 : Below w.heap.size w w6 := by
        rw [hw6e]
        have z4 := hw4.size
        have z5 := hw5.size
        exact (((hw5.setCell (by simp; omega) _).setCell (by simp; omega) _).alloc (by simp; omega) _).alloc (by simp; omega) _
      have R6 : Blk w6 (w4.heap.size + 1) #[.bool nl, .slice gr L.length cr] 37 := by
        rw [hw6e]
        exact (((Rw5.set 0 _).set 1 _).alloc _).alloc _
      clear hw6e cR0 cR1 fR0 fR1
      obtain ⟨cR0, cR1, fR0, fR1⟩ := R6.two
      have kR6 : (w4.heap.size + 1) < w6.heap.size := R6.lt
      go_wp2_with (go_at_call 14; with_reducible refine (FT.out gr cr _ IL6 hcr hnr).mono ?_; rintro e w9 ⟨rfl, hb⟩
                   have hw9 := hw6.trans (hb.mono hw6.size)
                   clear hb)
      refine bodyPost_ret (v := .tuple #[.int .i64 0, .int .i64 0, .int .i64 53]) (by simp [results, Tryz.results29, go_sem]) rfl ⟨rfl, ?_⟩
      exact hw9
    · simp only [Bool.false_eq_true, if_false, if_true, Prod.mk.injEq] at hfit
      obtain ⟨rfl, rfl, rfl⟩ := hfit
      have hw : Below w.heap.size w w := Below.refl _ _
      go_enter Tryz.func29, Tryz.ntmps29
      go_upto_region 28 with (first
        | (go_at_call 15
           with_reducible refine (OA.out _).mono ?_
           rintro e w1 ⟨g1, c1, rfl, IX, hc1, hn1, -, hb⟩
           have hs := hb
           have hw1 : Below w.heap.size w w1 := hw.trans (hs.mono hw.size)
           have Xw1 := Lib.hid IX
           clear IX
           clear hb hs)
        | (go_at_call 15
           with_reducible refine (OB.out _).mono ?_
           rintro e w2 ⟨g2, c2, rfl, IY, hc2, hn2, -, hb⟩
           have hs : Below w1.heap.size w1 w2 := ((Below.refl _ _).alloc (Nat.le_refl _) _).trans (hb.mono (by simp; try omega))
           have hw2 : Below w.heap.size w w2 := hw1.trans (hs.mono hw1.size)
           have Aw2 : Blk w2 w1.heap.size #[.bool b1, .slice g1 X.length c1] 37 := (Blk.here rfl rfl).below hb (by simp; try omega)
           have Xw2 := Lib.hid (Xw1.out.below hs (Nat.le_refl _))
           have Yw2 := Lib.hid IY
           clear IY
           clear hb hs Xw1
           obtain ⟨cA0, cA1, fA0, fA1⟩ := Aw2.two
           have kAw2 : w1.heap.size < w2.heap.size := Aw2.lt)
        | (go_at_call 50
           with_reducible refine (UX.out g1 c1 _ (Xw2.out.below ((Below.refl _ _).alloc (Nat.le_refl _) _) (Nat.le_refl _)) hc1 hn1).mono ?_
           rintro e w3 ⟨g3, c3, rfl, IU, hc3, hn3, -, hb⟩
           have hs : Below w2.heap.size w2 w3 := ((Below.refl _ _).alloc (Nat.le_refl _) _).trans (hb.mono (by simp; try omega))
           have hw3 : Below w.heap.size w w3 := hw2.trans (hs.mono hw2.size)
           have Aw3 := Aw2.below hs kAw2
           have Bw3 : Blk w3 w2.heap.size #[.bool b2, .slice g2 Y.length c2] 37 := (Blk.here rfl rfl).below hb (by simp; try omega)
           have Xw3 := Lib.hid (Xw2.out.below hs (Nat.le_refl _))
           have Yw3 := Lib.hid (Yw2.out.below hs (Nat.le_refl _))
           have Uw3 := Lib.hid IU
           clear IU
           clear hb hs Aw2 kAw2 cA0 cA1 fA0 fA1 Xw2 Yw2
           obtain ⟨cA0, cA1, fA0, fA1⟩ := Aw3.two
           have kAw3 : w1.heap.size < w3.heap.size := Aw3.lt
           obtain ⟨cB0, cB1, fB0, fB1⟩ := Bw3.two
           have kBw3 : w2.heap.size < w3.heap.size := Bw3.lt)
        | (go_at_call 50
           with_reducible refine (UY.out g2 c2 _ (Yw3.out.below ((Below.refl _ _).alloc (Nat.le_refl _) _) (Nat.le_refl _)) hc2 hn2).mono ?_
           rintro e w4 ⟨g4, c4, rfl, IV, hc4, hn4, -, hb⟩
           have hs : Below w3.heap.size w3 w4 := ((Below.refl _ _).alloc (Nat.le_refl _) _).trans (hb.mono (by simp; try omega))
           have hw4 : Below w.heap.size w w4 := hw3.trans (hs.mono hw3.size)
           have Aw4 := Aw3.below hs kAw3
           have Bw4 := Bw3.below hs kBw3
           have Cw4 : Blk w4 w3.heap.size #[.bool b1, .slice g3 U.length c3] 37 := (Blk.here rfl rfl).below hb (by simp; try omega)
           have Xw4 := Lib.hid (Xw3.out.below hs (Nat.le_refl _))
           have Yw4 := Lib.hid (Yw3.out.below hs (Nat.le_refl _))
           have Uw4 := Lib.hid (Uw3.out.below hs (Nat.le_refl _))
           have Vw4 := Lib.hid IV
           clear IV
           clear hb hs Aw3 kAw3 cA0 cA1 fA0 fA1 Bw3 kBw3 cB0 cB1 fB0 fB1 Xw3 Yw3 Uw3
           obtain ⟨cA0, cA1, fA0, fA1⟩ := Aw4.two
           have kAw4 : w1.heap.size < w4.heap.size := Aw4.lt
           obtain ⟨cB0, cB1, fB0, fB1⟩ := Bw4.two
           have kBw4 : w2.heap.size < w4.heap.size := Bw4.lt
           obtain ⟨cC0, cC1, fC0, fC1⟩ := Cw4.two
           have kCw4 : w3.heap.size < w4.heap.size := Cw4.lt)
        | (go_at_call 53
           with_reducible refine (DV.out g3 g4 c3 c4 _ (Uw4.out.below (((Below.refl _ _).alloc (Nat.le_refl _) _).alloc (by simp; try omega) _) (Nat.le_refl _)) (Vw4.out.below (((Below.refl _ _).alloc (Nat.le_refl _) _).alloc (by simp; try omega) _) (Nat.le_refl _))).mono ?_
           rintro e w5 ⟨gq, cq, gr, cr, rfl, IQ, hcq, hnq, hgq, IR, hcr, hnr, hgr, hb⟩
           have hs : Below w4.heap.size w4 w5 := (((Below.refl _ _).alloc (Nat.le_refl _) _).alloc (by simp; try omega) _).trans (hb.mono (by simp; try omega))
           have hw5 : Below w.heap.size w w5 := hw4.trans (hs.mono hw4.size)
           have Rw5 : Blk w5 (w4.heap.size + 1) #[.bool false, .slice none 0 0] 37 := (Blk.here rfl (by simp)).below hb (by simp; try omega)
           have QQw5 := Lib.hid IQ
           clear IQ
           have RRw5 := Lib.hid IR
           clear IR
           clear hb hs Aw4 kAw4 cA0 cA1 fA0 fA1 Bw4 kBw4 cB0 cB1 fB0 fB1 Cw4 kCw4 cC0 cC1 fC0 fC1 Xw4 Yw4 Uw4 Vw4
           obtain ⟨cR0, cR1, fR0, fR1⟩ := Rw5.two
           have kRw5 : (w4.heap.size + 1) < w5.heap.size := Rw5.lt
           have kkRw5 : w4.heap.size < w5.heap.size := by omega))
      subst hnl hL
      refine wp_worldD ?_
      intro w6 hw6e
      have IL6 : IRow w6 gr L.length L := by
        rw [hw6e]
        refine ((RRw5.out.other _ fun hn b o e => ?_).other _ fun hn b o e => ?_).below (((Below.refl _ _).alloc (Nat.le_refl _) _).alloc (by simp) _) (Nat.le_refl _)
        all_goals have := hgr hn b o e; simp at this ⊢; omega
      have hw6 : Below w.heap.size w w6 := by
        rw [hw6e]
        have z4 := hw4.size
        have z5 := hw5.size
        exact (((hw5.setCell (by simp; omega) _).setCell (by simp; omega) _).alloc (by simp; omega) _).alloc (by simp; omega) _
      have R6 : Blk w6 (w4.heap.size + 1) #[.bool nl, .slice gr L.length cr] 37 := by
        rw [hw6e]
        exact (((Rw5.set 0 _).set 1 _).alloc _).alloc _
      clear hw6e cR0 cR1 fR0 fR1
      obtain ⟨cR0, cR1, fR0, fR1⟩ := R6.two
      have kR6 : (w4.heap.size + 1) < w6.heap.size := R6.lt
      go_wp2_with (go_at_call 14; with_reducible refine (FT.out gr cr _ IL6 hcr hnr).mono ?_; rintro e w9 ⟨rfl, hb⟩
                   have hw9 := hw6.trans (hb.mono hw6.size)
                   clear hb)
      refine bodyPost_ret (v := .tuple #[.int .i64 f1, .int .i64 f2, .int .i64 0]) (by simp [results, Tryz.results29, go_sem]) rfl ⟨rfl, ?_⟩
      exact hw9
  · have hr : modF n s k t = (0, 0, 52) := by unfold modF; rw [ek]; rfl
    rw [hr]
    clear hr vX vY uX uY gX gY gU gV nX nY nU nV vV hk0
    have hw : Below w.heap.size w w := Below.refl _ _
    go_enter Tryz.func29, Tryz.ntmps29
    go_wp2_with (first
      | (go_at_call 15
         with_reducible refine (OA.out _).mono ?_
         rintro e w1 ⟨g1, c1, rfl, IX, hc1, hn1, -, hb⟩
         have hs := hb
         have hw1 : Below w.heap.size w w1 := hw.trans (hs.mono hw.size)
         have Xw1 := Lib.hid IX
         clear IX
         clear hb hs)
      | (go_at_call 15
         with_reducible refine (OB.out _).mono ?_
         rintro e w2 ⟨g2, c2, rfl, IY, hc2, hn2, -, hb⟩
         have hs : Below w1.heap.size w1 w2 := ((Below.refl _ _).alloc (Nat.le_refl _) _).trans (hb.mono (by simp; try omega))
         have hw2 : Below w.heap.size w w2 := hw1.trans (hs.mono hw1.size)
         have Aw2 : Blk w2 w1.heap.size #[.bool b1, .slice g1 X.length c1] 37 := (Blk.here rfl rfl).below hb (by simp; try omega)
         have Xw2 := Lib.hid (Xw1.out.below hs (Nat.le_refl _))
         have Yw2 := Lib.hid IY
         clear IY
         clear hb hs Xw1
         obtain ⟨cA0, cA1, fA0, fA1⟩ := Aw2.two
         have kAw2 : w1.heap.size < w2.heap.size := Aw2.lt)
      | (go_at_call 50
         with_reducible refine (UX.out g1 c1 _ (Xw2.out.below ((Below.refl _ _).alloc (Nat.le_refl _) _) (Nat.le_refl _)) hc1 hn1).mono ?_
         rintro e w3 ⟨g3, c3, rfl, IU, hc3, hn3, -, hb⟩
         have hs : Below w2.heap.size w2 w3 := ((Below.refl _ _).alloc (Nat.le_refl _) _).trans (hb.mono (by simp; try omega))
         have hw3 : Below w.heap.size w w3 := hw2.trans (hs.mono hw2.size)
         have Aw3 := Aw2.below hs kAw2
         have Bw3 : Blk w3 w2.heap.size #[.bool b2, .slice g2 Y.length c2] 37 := (Blk.here rfl rfl).below hb (by simp; try omega)
         have Xw3 := Lib.hid (Xw2.out.below hs (Nat.le_refl _))
         have Yw3 := Lib.hid (Yw2.out.below hs (Nat.le_refl _))
         have Uw3 := Lib.hid IU
         clear IU
         clear hb hs Aw2 kAw2 cA0 cA1 fA0 fA1 Xw2 Yw2
         obtain ⟨cA0, cA1, fA0, fA1⟩ := Aw3.two
         have kAw3 : w1.heap.size < w3.heap.size := Aw3.lt
         obtain ⟨cB0, cB1, fB0, fB1⟩ := Bw3.two
         have kBw3 : w2.heap.size < w3.heap.size := Bw3.lt)
      | (go_at_call 50
         with_reducible refine (UY.out g2 c2 _ (Yw3.out.below ((Below.refl _ _).alloc (Nat.le_refl _) _) (Nat.le_refl _)) hc2 hn2).mono ?_
         rintro e w4 ⟨g4, c4, rfl, IV, hc4, hn4, -, hb⟩
         have hs : Below w3.heap.size w3 w4 := ((Below.refl _ _).alloc (Nat.le_refl _) _).trans (hb.mono (by simp; try omega))
         have hw4 : Below w.heap.size w w4 := hw3.trans (hs.mono hw3.size)
         have Aw4 := Aw3.below hs kAw3
         have Bw4 := Bw3.below hs kBw3
         have Cw4 : Blk w4 w3.heap.size #[.bool b1, .slice g3 U.length c3] 37 := (Blk.here rfl rfl).below hb (by simp; try omega)
         have Xw4 := Lib.hid (Xw3.out.below hs (Nat.le_refl _))
         have Yw4 := Lib.hid (Yw3.out.below hs (Nat.le_refl _))
         have Uw4 := Lib.hid (Uw3.out.below hs (Nat.le_refl _))
         have Vw4 := Lib.hid IV
         clear IV
         clear hb hs Aw3 kAw3 cA0 cA1 fA0 fA1 Bw3 kBw3 cB0 cB1 fB0 fB1 Xw3 Yw3 Uw3
         obtain ⟨cA0, cA1, fA0, fA1⟩ := Aw4.two
         have kAw4 : w1.heap.size < w4.heap.size := Aw4.lt
         obtain ⟨cB0, cB1, fB0, fB1⟩ := Bw4.two
         have kBw4 : w2.heap.size < w4.heap.size := Bw4.lt
         obtain ⟨cC0, cC1, fC0, fC1⟩ := Cw4.two
         have kCw4 : w3.heap.size < w4.heap.size := Cw4.lt))
    refine bodyPost_ret (v := .tuple #[.int .i64 0, .int .i64 0, .int .i64 52]) (by simp [results, Tryz.results29, go_sem]) rfl ⟨rfl, ?_⟩
    exact hw4.alloc hw4.size _
end Go.Proofs.YtgbghbeolndfiaaGreatDoor

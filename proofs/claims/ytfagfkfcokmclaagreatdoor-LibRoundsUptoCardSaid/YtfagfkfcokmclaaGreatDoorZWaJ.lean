/- Whole numbers next to one: what the functions return. -/
import Derived.Test.YtfagfkfcokmclaaGreatDoorZWaI
set_option linter.unusedSimpArgs false
set_option linter.unusedVariables false
set_option linter.constructorNameAsVariable false
namespace Go.Proofs.YtfagfkfcokmclaaGreatDoor
open Go.RowKit

def cmp0 (r : Int) : Int := if decide (r < 0) then -1 else if decide (0 < r) then 1 else 0
theorem compare_any (r : Int) (w : World) : Calls Tryz.prog 188 #[.int .i64 r, .int .i64 0] w fun e w' => e = .returned (.int .i64 (cmp0 r)) ∧ w' = w := by
  unfold cmp0
  have hr : (r != r) = false := by simp
  cases e1 : decide (r < 0) <;> cases e2 : decide (0 < r)
  all_goals
    go_enter Tryz.func188, Tryz.ntmps188
    go_wp2
    go_returns
    exact ⟨rfl, rfl⟩
theorem tdiv_le (n P : Int) (hP : 0 < P) : (n.tdiv P).natAbs ≤ n.natAbs := by
  rw [Int.natAbs_tdiv]
  exact Nat.div_le_self _ _
theorem tmod_lt (n P : Int) (hP : 0 < P) : (n.tmod P).natAbs ≤ n.natAbs := by
  rw [Int.natAbs_tmod]
  exact Nat.mod_le _ _
set_option maxHeartbeats 1000000 in
theorem whole_any (n : Int) (s : Nat) (ha : Rt n s) (w : World) : Calls Tryz.prog 146 #[.agg #[.int .i64 n, .int .i64 (s : Int)]] w fun e w' =>
    e = .returned (.tuple #[.agg #[.int .i64 (n.tdiv (10 ^ s)), .int .i64 0], .int .i64 (cmp0 (n.tmod (10 ^ s)))]) ∧ Below w.heap.size w w' := by
  have CA := Lib.hid (fun w => clean_right ha w)
  have h9 := ha.s9
  have hlo := ha.lo
  have hhi := ha.hi
  obtain ⟨P, hP⟩ : ∃ P : Nat, P = powN s := ⟨_, rfl⟩
  have CP := Lib.hid (fun w => pow_any s (by omega) w)
  rw [← hP] at CP
  have hc : (10 : Int) ^ s = (P : Int) := by rw [hP, powN_cast]
  have hp0 : 0 < P := by rw [hP]; exact powN_pos s
  have hp1 : P ≤ 1000000000 := by
    have := powN_le (show s ≤ 9 by omega)
    have h9 : powN 9 = 1000000000 := by decide
    omega
  rw [hc]
  have b1 := tdiv_le n P (by omega)
  have b2 := tmod_lt n P (by omega)
  obtain ⟨q, hq⟩ : ∃ q, q = n.tdiv (P : Int) := ⟨_, rfl⟩
  obtain ⟨r, hr⟩ : ∃ r, r = n.tmod (P : Int) := ⟨_, rfl⟩
  rw [← hq] at b1
  rw [← hr] at b2
  have q1 : n.tdiv (P : Int) = q := hq.symm
  have q2 : n.tmod (P : Int) = r := hr.symm
  have q3 : IntKind.i64.wrap q = q := IntWalk.i64_in _ (by omega)
  have q4 : IntKind.i64.wrap r = r := IntWalk.i64_in _ (by omega)
  have q5 : IntKind.i64.wrap (P : Int) = (P : Int) := IntWalk.i64_in _ (by omega)
  have q6 : ((P : Int) == 0) = false := by simp; omega
  have q7 : (P : Int) ≠ 0 := by omega
  have q8 : P ≠ 0 := by omega
  have q9 : (P == 0) = false := by simp; omega
  have CC := Lib.hid (fun w => compare_any r w)
  rw [q1, q2]
  clear hq hr hc hP b1 b2
  go_enter Tryz.func146, Tryz.ntmps146
  go_wp2_with (first
    | (go_at_call 135; with_reducible refine (CA.out _).mono ?_; rintro e w1 ⟨rfl, hb⟩
       have E0 : Blk w1 w.heap.size #[.int .i64 n, .int .i64 (s : Int)] 106 := (Blk.alloc (Blk.here rfl rfl) _).below hb (by simp; omega)
       have E1 : Blk w1 (w.heap.size + 1) #[.int .i64 0, .int .i64 0] 106 := (Blk.here rfl (by simp)).below hb (by simp)
       have hw1 : Below w.heap.size w w1 := Below.trans (by go_grown) (hb.mono (by simp; omega))
       obtain ⟨c00, c01, f00, f01⟩ := E0.two
       clear hb)
    | (go_at_call 184; with_reducible refine (CP.out _).mono ?_; rintro e w2 ⟨rfl, rfl⟩))
  refine wp_worldT ?_
  intro w2 hw2
  have F0 : Blk w2 w.heap.size #[.int .i64 n, .int .i64 (s : Int)] 106 := by rw [hw2]; exact (E0.set 0 _).set 1 _
  have F1 : Blk w2 (w.heap.size + 1) #[.int .i64 0, .int .i64 0] 106 := by rw [hw2]; exact (E1.other (by simp) _).other (by simp) _
  have hw : Below w.heap.size w w2 := by rw [hw2]; exact (hw1.setCell (by simp) _).setCell (by simp) _
  clear hw2 hw1 E0 E1 c00 c01 f00 f01
  obtain ⟨c00, c01, -, -⟩ := F0.two
  have l0 : w.heap.size < w2.heap.size := F0.lt
  refine region_steps 10 [some 11, some 12, some 13, some 14, some 15, some 16, some 17, some 18, some 19, some 20] (by kernel_rfl) (by kernel_rfl) ?_
  -- 0: Op.fieldAddr 106 (Operand.tmp 1) 0
  apply ls_val
  · intro x w' hb hpre K hK
    have hc := (bcell hb).1
    clear hpre
    simp only [frL, Act.put, List.setIfInBounds_toArray, List.set_cons_zero, List.set_cons_succ, Nat.zero_add, Nat.reduceAdd] at hK ⊢
    have HK := Lib.hid hK
    clear hK
    refine Held.mk ?_
    go_simp
    exact HK.out _ (Below.refl _ _)
  -- 1: Op.load 3 (Operand.tmp 11)
  apply ls_val
  · intro x w' hb hpre K hK
    have hc := (bcell hb).1
    simp [preds, Region.binds, phi, MP.val, MP.box, MP.row] at hpre
    simp only [frL, Act.put, List.setIfInBounds_toArray, List.set_cons_zero, List.set_cons_succ, Nat.zero_add, Nat.reduceAdd, hpre] at hK ⊢
    have HK := Lib.hid hK
    clear hK
    refine Held.mk ?_
    go_simp
    exact HK.out _ (Below.refl _ _)
  -- 2: Op.move (Operand.tmp 4)
  apply ls_val
  · intro x w' hb hpre K hK
    have hc := (bcell hb).1
    clear hpre
    simp only [frL, Act.put, List.setIfInBounds_toArray, List.set_cons_zero, List.set_cons_succ, Nat.zero_add, Nat.reduceAdd] at hK ⊢
    have HK := Lib.hid hK
    clear hK
    refine Held.mk ?_
    go_simp
    exact HK.out _ (Below.refl _ _)
  -- 3: Op.binOp BinOp.quo 3 (Operand.tmp 12) (Operand.tmp 13) 3
  apply ls_val
  · intro x w' hb hpre K hK
    have hc := (bcell hb).1
    simp [preds, Region.binds, phi, MP.val, MP.box, MP.row] at hpre
    simp only [frL, Act.put, List.setIfInBounds_toArray, List.set_cons_zero, List.set_cons_succ, Nat.zero_add, Nat.reduceAdd, hpre] at hK ⊢
    have HK := Lib.hid hK
    clear hK
    refine Held.mk ?_
    go_simp
    exact HK.out _ (Below.refl _ _)
  -- 4: Op.build 106 #[(0, Operand.tmp 14)]
  apply ls_val
  · intro x w' hb hpre K hK
    have hc := (bcell hb).1
    simp [preds, Region.binds, phi, MP.val, MP.box, MP.row] at hpre
    simp only [frL, Act.put, List.setIfInBounds_toArray, List.set_cons_zero, List.set_cons_succ, Nat.zero_add, Nat.reduceAdd, hpre] at hK ⊢
    have HK := Lib.hid hK
    clear hK
    refine Held.mk ?_
    go_simp
    exact HK.out _ (Below.refl _ _)
  -- 5: Op.fieldAddr 106 (Operand.tmp 1) 0
  apply ls_val
  · intro x w' hb hpre K hK
    have hc := (bcell hb).1
    clear hpre
    simp only [frL, Act.put, List.setIfInBounds_toArray, List.set_cons_zero, List.set_cons_succ, Nat.zero_add, Nat.reduceAdd] at hK ⊢
    have HK := Lib.hid hK
    clear hK
    refine Held.mk ?_
    go_simp
    exact HK.out _ (Below.refl _ _)
  -- 6: Op.load 3 (Operand.tmp 16)
  apply ls_val
  · intro x w' hb hpre K hK
    have hc := (bcell hb).1
    simp [preds, Region.binds, phi, MP.val, MP.box, MP.row] at hpre
    simp only [frL, Act.put, List.setIfInBounds_toArray, List.set_cons_zero, List.set_cons_succ, Nat.zero_add, Nat.reduceAdd, hpre] at hK ⊢
    have HK := Lib.hid hK
    clear hK
    refine Held.mk ?_
    go_simp
    exact HK.out _ (Below.refl _ _)
  -- 7: Op.move (Operand.tmp 4)
  apply ls_val
  · intro x w' hb hpre K hK
    have hc := (bcell hb).1
    clear hpre
    simp only [frL, Act.put, List.setIfInBounds_toArray, List.set_cons_zero, List.set_cons_succ, Nat.zero_add, Nat.reduceAdd] at hK ⊢
    have HK := Lib.hid hK
    clear hK
    refine Held.mk ?_
    go_simp
    exact HK.out _ (Below.refl _ _)
  -- 8: Op.binOp BinOp.rem 3 (Operand.tmp 17) (Operand.tmp 18) 3
  apply ls_val
  · intro x w' hb hpre K hK
    have hc := (bcell hb).1
    simp [preds, Region.binds, phi, MP.val, MP.box, MP.row] at hpre
    simp only [frL, Act.put, List.setIfInBounds_toArray, List.set_cons_zero, List.set_cons_succ, Nat.zero_add, Nat.reduceAdd, hpre] at hK ⊢
    have HK := Lib.hid hK
    clear hK
    refine Held.mk ?_
    go_simp
    exact HK.out _ (Below.refl _ _)
  -- 9: Op.call { callee := Callee.value (Operand.func 188), args := #[Operand.tmp 19, Operand.con
  apply ls_val
  · intro x w' hb hpre K hK
    have hc := (bcell hb).1
    simp [preds, Region.binds, phi, MP.val, MP.box, MP.row] at hpre
    simp only [frL, Act.put, List.setIfInBounds_toArray, List.set_cons_zero, List.set_cons_succ, Nat.zero_add, Nat.reduceAdd, hpre] at hK ⊢
    have HK := Lib.hid hK
    clear hK
    refine Held.mk ?_
    go_simp
    (with_reducible refine (CC.out _).mono ?_)
    rintro e w1 ⟨rfl, rfl⟩
    have hb1 := Below.refl w1.heap.size w1
    dsimp only
    exact HK.out _ hb1
  intro x w' hb hp
  simp only [List.cons_append, List.nil_append, phis, MP.val, MP.box, MP.row, frL, Act.put, List.setIfInBounds_toArray, List.set_cons_zero, List.set_cons_succ, Nat.zero_add, Nat.reduceAdd] at hp ⊢
  obtain ⟨h0, h1, h2, h3, h4, h5, h6, h7, h8, h9, -⟩ := hp
  simp only [h0, h1, h2, h3, h4, h5, h6, h7, h8, h9]
  clear h0 h1 h2 h3 h4 h5 h6 h7 h8 h9
  have G1 := F1.below hb F1.lt
  have hu : Below w.heap.size w w' := hw.trans (hb.mono (Nat.le_of_lt l0))
  obtain ⟨c10, c11, f10, f11⟩ := G1.two
  have k1 := G1.lt
  clear c00 c01 l0 F0 F1 hb hw
  go_wp2_with fail
  refine bodyPost_ret (v := .tuple #[.agg #[.int .i64 q, .int .i64 0], .int .i64 (cmp0 r)]) (by simp [results, Tryz.results146, go_sem, c10, c11]) rfl ⟨rfl, ?_⟩
  go_grown
  all_goals first | exact hu | exact hu.size
theorem floor_small {n : Int} {s : Nat} (ha : Rt n s) : -999999999999999999 ≤ n.tdiv (10 ^ s) ∧ n.tdiv (10 ^ s) ≤ 999999999999999999 := by
  have := tdiv_le n (10 ^ s) (pow10_pos s)
  have := ha.lo
  have := ha.hi
  omega
set_option maxHeartbeats 1000000 in
theorem floor_any (n : Int) (s : Nat) (ha : Rt n s) (w : World) : Calls Tryz.prog 89 #[.agg #[.int .i64 n, .int .i64 (s : Int)]] w fun e w' => e = .returned (.agg #[.int .i64 (floorF n s), .int .i64 0]) ∧ Below w.heap.size w w' := by
  have hq := floor_small ha
  have CW := Lib.hid (fun w => whole_any n s ha w)
  have hf : floorF n s = if decide (n.tmod (10 ^ s) < 0) then n.tdiv (10 ^ s) - 1 else n.tdiv (10 ^ s) := rfl
  rw [hf]
  obtain ⟨q, hq0⟩ : ∃ q, q = n.tdiv (10 ^ s) := ⟨_, rfl⟩
  obtain ⟨r, hr0⟩ : ∃ r, r = n.tmod (10 ^ s) := ⟨_, rfl⟩
  rw [← hq0, ← hr0] at CW ⊢
  rw [← hq0] at hq
  have hz : decide (cmp0 r < 0) = decide (r < 0) := by
    unfold cmp0
    cases e : decide (r < 0)
    · simp only [Bool.false_eq_true, if_false]; split <;> rfl
    · rfl
  obtain ⟨c, hc⟩ : ∃ c, c = cmp0 r := ⟨_, rfl⟩
  rw [← hc] at CW hz
  have g1 : IntKind.i64.wrap (q - 1) = q - 1 := IntWalk.i64_in _ (by omega)
  clear hf hq0 hr0 hc
  cases e : decide (r < 0) <;> rw [e] at hz
  all_goals
    go_enter Tryz.func89, Tryz.ntmps89
    go_wp2_with (go_at_call 146; with_reducible refine (CW.out _).mono ?_; rintro e w1 ⟨rfl, hb⟩
                 have E1 : Blk w1 (w.heap.size + 1) #[.int .i64 0, .int .i64 0] 106 := (Blk.here rfl (by simp)).below hb (by simp)
                 have hw1 : Below w.heap.size w w1 := Below.trans (by go_grown) (hb.mono (by simp; omega))
                 obtain ⟨c10, c11, f10, f11⟩ := E1.two
                 have k1 := E1.lt
                 clear hb)
  · refine bodyPost_ret (v := .agg #[.int .i64 q, .int .i64 0]) (by simp [results, Tryz.results89, go_sem, c10, c11, k1]) rfl ⟨rfl, ?_⟩
    go_grown
    all_goals first | exact hw1 | exact hw1.size
  · refine bodyPost_ret (v := .agg #[.int .i64 (q - 1), .int .i64 0]) (by simp [results, Tryz.results89, go_sem, c10, c11, k1]) rfl ⟨rfl, ?_⟩
    go_grown
    all_goals first | exact hw1 | exact hw1.size
set_option maxHeartbeats 1000000 in
theorem ceil_any (n : Int) (s : Nat) (ha : Rt n s) (w : World) : Calls Tryz.prog 90 #[.agg #[.int .i64 n, .int .i64 (s : Int)]] w fun e w' => e = .returned (.agg #[.int .i64 (ceilF n s), .int .i64 0]) ∧ Below w.heap.size w w' := by
  have hq := floor_small ha
  have CW := Lib.hid (fun w => whole_any n s ha w)
  have hf : ceilF n s = if decide (0 < n.tmod (10 ^ s)) then n.tdiv (10 ^ s) + 1 else n.tdiv (10 ^ s) := rfl
  rw [hf]
  obtain ⟨q, hq0⟩ : ∃ q, q = n.tdiv (10 ^ s) := ⟨_, rfl⟩
  obtain ⟨r, hr0⟩ : ∃ r, r = n.tmod (10 ^ s) := ⟨_, rfl⟩
  rw [← hq0, ← hr0] at CW ⊢
  rw [← hq0] at hq
  have hz : decide (0 < cmp0 r) = decide (0 < r) := by
    unfold cmp0
    cases e : decide (r < 0)
    · simp only [Bool.false_eq_true, if_false]; split <;> simp_all
    · simp at e
      rw [decide_eq_false (show ¬ 0 < r by omega)]
      rfl
  obtain ⟨c, hc⟩ : ∃ c, c = cmp0 r := ⟨_, rfl⟩
  rw [← hc] at CW hz
  have g1 : IntKind.i64.wrap (q + 1) = q + 1 := IntWalk.i64_in _ (by omega)
  clear hf hq0 hr0 hc
  cases e : decide (0 < r) <;> rw [e] at hz
  all_goals
    go_enter Tryz.func90, Tryz.ntmps90
    go_wp2_with (go_at_call 146; with_reducible refine (CW.out _).mono ?_; rintro e w1 ⟨rfl, hb⟩
                 have E1 : Blk w1 (w.heap.size + 1) #[.int .i64 0, .int .i64 0] 106 := (Blk.here rfl (by simp)).below hb (by simp)
                 have hw1 : Below w.heap.size w w1 := Below.trans (by go_grown) (hb.mono (by simp; omega))
                 obtain ⟨c10, c11, f10, f11⟩ := E1.two
                 have k1 := E1.lt
                 clear hb)
  · refine bodyPost_ret (v := .agg #[.int .i64 q, .int .i64 0]) (by simp [results, Tryz.results90, go_sem, c10, c11, k1]) rfl ⟨rfl, ?_⟩
    go_grown
    all_goals first | exact hw1 | exact hw1.size
  · refine bodyPost_ret (v := .agg #[.int .i64 (q + 1), .int .i64 0]) (by simp [results, Tryz.results90, go_sem, c10, c11, k1]) rfl ⟨rfl, ?_⟩
    go_grown
    all_goals first | exact hw1 | exact hw1.size
set_option maxHeartbeats 2000000 in
theorem round_any (n : Int) (s : Nat) (ha : Rt n s) (w : World) : Calls Tryz.prog 91 #[.agg #[.int .i64 n, .int .i64 (s : Int)]] w fun e w' => e = .returned (.agg #[.int .i64 (roundF n s), .int .i64 0]) ∧ Below w.heap.size w w' := by
  have CA := Lib.hid (fun w => clean_right ha w)
  have CF := Lib.hid (fun w => floor_any n s ha w)
  obtain ⟨fr, -⟩ := floor_Rt ha
  have CS := Lib.hid (fun w => sub_any n (floorF n s) s 0 ha fr w)
  obtain ⟨u, v, x, y, g1, -, g3, -, -⟩ := low_high ha
  have hvs := g3.s0
  obtain ⟨v', hv'⟩ : ∃ k : Nat, v = (k : Int) := ⟨v.toNat, by omega⟩
  subst hv'
  have CC := Lib.hid (fun w => cmp_any u 5 v' 1 g3 ⟨by omega, by omega, by omega, by omega, by omega⟩ w)
  have hf : roundF n s = if (s : Int) == 0 then n else if decide (0 ≤ cmpF u v' 5 1) then floorF n s + 1 else floorF n s := by
    unfold roundF
    rw [g1]
  simp only [Int.natCast_zero] at CS
  rw [g1] at CS
  have hfl := fr.lo
  have hfh := fr.hi
  obtain ⟨c, hc⟩ : ∃ c, c = cmpF u v' 5 1 := ⟨_, rfl⟩
  rw [show ((1 : Nat) : Int) = 1 from rfl, ← hc] at CC
  rw [hf, ← hc]
  obtain ⟨q, hq⟩ : ∃ q, q = floorF n s := ⟨_, rfl⟩
  rw [← hq] at CF CS hfl hfh ⊢
  have g9 : IntKind.i64.wrap (q + 1) = q + 1 := IntWalk.i64_in _ (by omega)
  have hs0 : (s : Int) = 0 → s = 0 := by omega
  clear hf hc hq g1 g3 fr
  cases ez : ((s : Int) == 0)
  · simp only [Bool.false_eq_true, if_false]
    cases e : decide (0 ≤ c)
    all_goals
      go_enter Tryz.func91, Tryz.ntmps91
      go_wp2_with (first
        | (go_at_call 135; with_reducible refine (CA.out _).mono ?_; rintro e w1 ⟨rfl, hb⟩
           have E0 : Blk w1 w.heap.size #[.int .i64 n, .int .i64 (s : Int)] 106 := (Blk.alloc (Blk.here rfl rfl) _).below hb (by simp; omega)
           have E1 : Blk w1 (w.heap.size + 1) #[.int .i64 0, .int .i64 0] 106 := (Blk.here rfl (by simp)).below hb (by simp)
           have hw1 : Below w.heap.size w w1 := Below.trans (by go_grown) (hb.mono (by simp; omega))
           obtain ⟨c00, c01, f00, f01⟩ := E0.two
           clear hb)
        | (go_at_call 89; with_reducible refine (CF.out _).mono ?_; rintro e w2 ⟨rfl, hb⟩
           have F0 : Blk w2 w.heap.size #[.int .i64 n, .int .i64 (s : Int)] 106 := Blk.below ((E0.set 0 _).set 1 _) hb (by have := E0.lt; simpa using this)
           have F1 : Blk w2 (w.heap.size + 1) #[.int .i64 0, .int .i64 0] 106 := Blk.below ((E1.other (by simp) _).other (by simp) _) hb (by have := E1.lt; simpa using this)
           have hw2 : Below w.heap.size w w2 := ((hw1.setCell (by simp) _).setCell (by simp) _).trans (hb.mono (by have := hw1.size; simpa using this))
           clear hb E0 E1 hw1 c00 c01 f00 f01
           obtain ⟨c00, c01, f00, f01⟩ := F0.two
           have l0 : w.heap.size < w2.heap.size := F0.lt)
        | (go_at_call 77; with_reducible refine (CS.out _).mono ?_; rintro e w3 ⟨rfl, hb⟩
           have G1 := (F1.alloc _).below hb (by have := F1.lt; simp; omega)
           have GQ : Blk w3 w2.heap.size #[.int .i64 q, .int .i64 0] 106 := (Blk.here rfl rfl).below hb (by simp)
           have hw3 : Below w.heap.size w w3 := (hw2.alloc hw2.size _).trans (hb.mono (by have := hw2.size; simp; omega))
           have hS : w.heap.size + 1 < w2.heap.size := F1.lt
           clear hb F0 F1 hw2 c00 c01 f00 f01)
        | (go_at_call 144; with_reducible refine (CC.out _).mono ?_; rintro e w4 ⟨rfl, hb⟩
           have H1 := (G1.alloc _).below hb (by have := G1.lt; simp; omega)
           have HQ := (GQ.alloc _).below hb (by have := GQ.lt; simp; omega)
           have hw4 : Below w.heap.size w w4 := (hw3.alloc hw3.size _).trans (hb.mono (by have := hw3.size; simp; omega))
           obtain ⟨c10, c11, f10, f11⟩ := H1.two
           obtain ⟨d10, d11, e10, e11⟩ := HQ.two
           have n1 : w.heap.size + 1 ≠ w2.heap.size := by omega
           have n2 : w2.heap.size ≠ w.heap.size + 1 := by omega
           have n3 : w.heap.size ≤ w2.heap.size := by omega
           clear hb G1 GQ hw3))
    · refine bodyPost_ret (v := .agg #[.int .i64 q, .int .i64 0]) (by simp [results, Tryz.results91, go_sem, c10, c11, d10, d11, n1, n2]) rfl ⟨rfl, ?_⟩
      go_grown
      all_goals first | exact hw4 | exact hw4.size | exact n3
    · refine bodyPost_ret (v := .agg #[.int .i64 (q + 1), .int .i64 0]) (by simp [results, Tryz.results91, go_sem, c10, c11, d10, d11, n1, n2]) rfl ⟨rfl, ?_⟩
      go_grown
      all_goals first | exact hw4 | exact hw4.size | exact n3
  · have es : (s : Int) = 0 := by simpa using ez
    rw [es] at CA
    rw [es, if_pos rfl]
    clear CF CS CC ez
    go_enter Tryz.func91, Tryz.ntmps91
    go_wp2_with (go_at_call 135; with_reducible refine (CA.out _).mono ?_; rintro e w1 ⟨rfl, hb⟩
                 have E0 : Blk w1 w.heap.size #[.int .i64 n, .int .i64 0] 106 := (Blk.alloc (Blk.here rfl rfl) _).below hb (by simp; omega)
                 have E1 : Blk w1 (w.heap.size + 1) #[.int .i64 0, .int .i64 0] 106 := (Blk.here rfl (by simp)).below hb (by simp)
                 have hw1 : Below w.heap.size w w1 := Below.trans (by go_grown) (hb.mono (by simp; omega))
                 obtain ⟨c00, c01, f00, f01⟩ := E0.two
                 obtain ⟨c10, c11, f10, f11⟩ := E1.two
                 clear hb)
    refine bodyPost_ret (v := .agg #[.int .i64 n, .int .i64 0]) (by simp [results, Tryz.results91, go_sem, c10, c11]) rfl ⟨rfl, ?_⟩
    go_grown
    all_goals first | exact hw1 | exact hw1.size
end Go.Proofs.YtfagfkfcokmclaaGreatDoor

/- DeepTrees' walk. -/
import Derived.Test.YtgdbbocfiejlfaaDoorDqB
import Derived.Test.YtgdbbocfiejlfaaDoorDqC
import Derived.Test.YtgdbbocfiejlfaaDoorDpG
set_option linter.unusedSimpArgs false
set_option linter.unusedVariables false
set_option linter.constructorNameAsVariable false
namespace Go.Proofs.YtgdbbocfiejlfaaDoor
open Go.RowKit

set_option maxRecDepth 100000 in
set_option maxHeartbeats 8000000 in
theorem treeslaw_walk (N : Nat) (a b : Tr N) (k : Int) (n v : ByteArray) (aa : Option Addr) (la ca : Nat) (ka : Option Addr) (lk ck : Nat) (k2 : Int) (n2 v2 : ByteArray) (ab : Option Addr) (lb cb : Nat) (kb : Option Addr) (ll cl : Nat) (w : World)
    (HA0 : TLies All N w a #[.int .i64 k, .string n, .string v, .slice aa la ca, .slice ka lk ck]) (HB0 : TLies All N w b #[.int .i64 k2, .string n2, .string v2, .slice ab lb cb, .slice kb ll cl]) :
    Calls Tryd.prog 3 #[.agg #[.int .i64 k, .string n, .string v, .slice aa la ca, .slice ka lk ck], .agg #[.int .i64 k2, .string n2, .string v2, .slice ab lb cb, .slice kb ll cl]] w fun e w' => e = .returned (.bool true) ∧ Below w.heap.size w w' := by
  have AW := Lib.hid (fun w => awake_any w)
  have HA := Lib.hid HA0
  have HB := Lib.hid HB0
  have FW : Hid (∀ q w', Below w.heap.size w w' → Blk w' q #[.int .i64 k, .string n, .string v, .slice aa la ca, .slice ka lk ck, .int .i64 k2, .string n2, .string v2, .slice ab lb cb, .slice kb ll cl] 26 → Calls Tryd.prog 6 #[.slice (some ⟨q, 0, none⟩) 2 2] w' fun e w'' => e = .returned (.bool (fewF N 400 [a, b])) ∧ Below w'.heap.size w' w'') :=
    Lib.hid (fun q w' hb hB => small_any N _ 2 [a, b] w' (trow_two hB (HA0.on hb) (HB0.on hb)) (show (2 : Nat) ≤ 9223372036854775807 by decide))
  clear HA0 HB0
  obtain ⟨few, hfew⟩ : ∃ few, fewF N 400 [a, b] = few := ⟨_, rfl⟩
  rw [hfew] at FW
  have HF := Lib.hid hfew
  clear hfew
  go_enter Tryd.func3, Tryd.ntmps3
  go_wp2_with fail
  have BA : Blk ((w.alloc (.cells #[.int .i64 k, .string n, .string v, .slice aa la ca, .slice ka lk ck] 26)).alloc (.cells #[.int .i64 k2, .string n2, .string v2, .slice ab lb cb, .slice kb ll cl] 26)) w.heap.size #[.int .i64 k, .string n, .string v, .slice aa la ca, .slice ka lk ck] 26 := (Blk.new _ _ _).alloc _
  have BB : Blk ((w.alloc (.cells #[.int .i64 k, .string n, .string v, .slice aa la ca, .slice ka lk ck] 26)).alloc (.cells #[.int .i64 k2, .string n2, .string v2, .slice ab lb cb, .slice kb ll cl] 26)) (w.heap.size + 1) #[.int .i64 k2, .string n2, .string v2, .slice ab lb cb, .slice kb ll cl] 26 := by
    have := Blk.new (w.alloc (.cells #[.int .i64 k, .string n, .string v, .slice aa la ca, .slice ka lk ck] 26)) #[.int .i64 k2, .string n2, .string v2, .slice ab lb cb, .slice kb ll cl] 26
    simpa using this
  have hw0 : Below w.heap.size w ((w.alloc (.cells #[.int .i64 k, .string n, .string v, .slice aa la ca, .slice ka lk ck] 26)).alloc (.cells #[.int .i64 k2, .string n2, .string v2, .slice ab lb cb, .slice kb ll cl] 26)) := ((Below.refl _ _).alloc (Nat.le_refl _) _).alloc (by simp) _
  generalize (w.alloc (.cells #[.int .i64 k, .string n, .string v, .slice aa la ca, .slice ka lk ck] 26)).alloc (.cells #[.int .i64 k2, .string n2, .string v2, .slice ab lb cb, .slice kb ll cl] 26) = W at *
  with_reducible refine (AW.out _).mono ?_
  rintro e w1 ⟨rfl, hb⟩
  have hw1 : Below w.heap.size w w1 := hw0.trans (hb.mono hw0.size)
  replace BA := BA.below hb BA.lt
  replace BB := BB.below hb BB.lt
  clear hb
  have kA := BA.lt
  have kB := BB.lt
  obtain ⟨⟨a0, a1, a2, a3, a4⟩, -⟩ := BA.five5
  obtain ⟨⟨b0, b1, b2, b3, b4⟩, -⟩ := BB.five5
  go_wp2_with fail
  have hbq : Below w1.heap.size w1 (w1.alloc (.cells #[.int .i64 k, .string n, .string v, .slice aa la ca, .slice ka lk ck, .int .i64 k2, .string n2, .string v2, .slice ab lb cb, .slice kb ll cl] 26)) := (Below.refl _ _).alloc (Nat.le_refl _) _
  have BQ : Blk (w1.alloc (.cells #[.int .i64 k, .string n, .string v, .slice aa la ca, .slice ka lk ck, .int .i64 k2, .string n2, .string v2, .slice ab lb cb, .slice kb ll cl] 26)) w1.heap.size _ 26 := Blk.new _ _ _
  have hwq : Below w.heap.size w (w1.alloc (.cells #[.int .i64 k, .string n, .string v, .slice aa la ca, .slice ka lk ck, .int .i64 k2, .string n2, .string v2, .slice ab lb cb, .slice kb ll cl] 26)) := hw1.trans (hbq.mono hw1.size)
  generalize w1.alloc (.cells #[.int .i64 k, .string n, .string v, .slice aa la ca, .slice ka lk ck, .int .i64 k2, .string n2, .string v2, .slice ab lb cb, .slice kb ll cl] 26) = WQ at *
  with_reducible refine (FW.out _ _ hwq BQ).mono ?_
  rintro e w2 ⟨rfl, hb⟩
  have hw2 : Below w.heap.size w w2 := hwq.trans (hb.mono hwq.size)
  replace BA := (BA.below hbq BA.lt).below hb (Nat.lt_of_lt_of_le BA.lt hbq.size)
  replace BB := (BB.below hbq BB.lt).below hb (Nat.lt_of_lt_of_le BB.lt hbq.size)
  clear hb hbq BQ hwq kA kB a0 a1 a2 a3 a4 b0 b1 b2 b3 b4
  have kA := BA.lt
  have kB := BB.lt
  obtain ⟨⟨a0, a1, a2, a3, a4⟩, -⟩ := BA.five5
  obtain ⟨⟨b0, b1, b2, b3, b4⟩, -⟩ := BB.five5
  cases few
  · go_wp2_with fail
    with_reducible refine (AW.out _).mono ?_
    rintro e w3 ⟨rfl, hb⟩
    go_wp2_with fail
    go_returns
    exact ⟨rfl, hw2.trans (hb.mono hw2.size)⟩
  · have hsm := fewF_small N 400 [a, b] (by decide) HF.out
    have SA := Lib.hid (hsm a (by simp))
    have SB := Lib.hid (hsm b (by simp))
    clear hsm
    have CA := Lib.hid (fun w' (hb : Below w.heap.size w w') => copy_any N All a _ w' (HA.out.on hb) SA.out)
    have CB := Lib.hid (fun w' (hb : Below w.heap.size w w') => copy_any N All b _ w' (HB.out.on hb) SB.out)
    go_wp2_with fail
    refine RC.region_steps (R := RB) 6 [some 17, some 18, some 19, some 20, some 5, some 6] (JC N w2.heap.size a b) (fun a b c h1 h2 => h1.trans (h2.mono h1.size)) (fun w => below_drewN (Below.refl _ w) 1) (fun w9 => ⟨fun q hq => by simp [orig, undef] at hq, fun q hq => by simp [orig, undef] at hq, fun q p hq => by simp [orig, undef] at hq, fun ds hq => by simp [orig, undef] at hq, fun ds hq => by simp [orig, undef] at hq⟩) (by kernel_rfl) (by kernel_rfl) ?_
    -- 0: Op.load 26 (Operand.tmp 2)
    refine RC.ls_gen (.val (.agg #[.int .i64 k, .string n, .string v, .slice aa la ca, .slice ka lk ck])) ?_ ?_
    · intro x w' hb hj hpre K hK
      clear hpre
      have z0 := (hb.cell (p := ⟨w.heap.size, 0, none⟩) kA).trans a0
      have z1 := (hb.cell (p := ⟨w.heap.size, 1, none⟩) kA).trans a1
      have z2 := (hb.cell (p := ⟨w.heap.size, 2, none⟩) kA).trans a2
      have z3 := (hb.cell (p := ⟨w.heap.size, 3, none⟩) kA).trans a3
      have z4 := (hb.cell (p := ⟨w.heap.size, 4, none⟩) kA).trans a4
      simp only [frL, Act.put, List.setIfInBounds_toArray, List.set_cons_zero, List.set_cons_succ, Nat.zero_add, Nat.reduceAdd] at hK ⊢
      have HK := Lib.hid hK
      clear hK
      refine Held.mk ?_
      go_simp
      exact HK.out _ _ rfl (hj.oth 0 _ rfl) (Below.refl _ _)
    -- 1: Op.call { callee := Callee.value (Operand.func 7), args := #[Operand.tmp 17], ar
    refine RC.ls_gen (MPag) ?_ ?_
    · intro x w' hb hj hpre K hK
      have p0 := hpre.1 rfl
      simp [RC.phi, RC.MP.val, MPag, MPpt] at p0
      clear hpre
      simp only [frL, Act.put, List.setIfInBounds_toArray, List.set_cons_zero, List.set_cons_succ, Nat.zero_add, Nat.reduceAdd, p0] at hK ⊢
      have HK := Lib.hid hK
      clear hK
      refine Held.mk ?_
      go_simp
      with_reducible refine (CA.out _ (hw2.trans (hb.mono hw2.size))).mono ?_
      rintro e w1 ⟨⟨ds, rfl, hd⟩, hb1⟩
      dsimp only
      exact HK.out _ _ ⟨ds, rfl⟩ (hj.copyA hd hb1) hb1
    -- 2: Op.load 26 (Operand.tmp 3)
    refine RC.ls_gen (.val (.agg #[.int .i64 k2, .string n2, .string v2, .slice ab lb cb, .slice kb ll cl])) ?_ ?_
    · intro x w' hb hj hpre K hK
      clear hpre
      have t0 := (hb.cell (p := ⟨w.heap.size + 1, 0, none⟩) kB).trans b0
      have t1 := (hb.cell (p := ⟨w.heap.size + 1, 1, none⟩) kB).trans b1
      have t2 := (hb.cell (p := ⟨w.heap.size + 1, 2, none⟩) kB).trans b2
      have t3 := (hb.cell (p := ⟨w.heap.size + 1, 3, none⟩) kB).trans b3
      have t4 := (hb.cell (p := ⟨w.heap.size + 1, 4, none⟩) kB).trans b4
      simp only [frL, Act.put, List.setIfInBounds_toArray, List.set_cons_zero, List.set_cons_succ, Nat.zero_add, Nat.reduceAdd] at hK ⊢
      have HK := Lib.hid hK
      clear hK
      refine Held.mk ?_
      go_simp
      exact HK.out _ _ rfl (hj.oth 2 _ rfl) (Below.refl _ _)
    -- 3: Op.call { callee := Callee.value (Operand.func 7), args := #[Operand.tmp 19], ar
    refine RC.ls_gen (MPag) ?_ ?_
    · intro x w' hb hj hpre K hK
      have p0 := hpre.1 rfl
      simp [RC.phi, RC.MP.val, MPag, MPpt] at p0
      clear hpre
      simp only [frL, Act.put, List.setIfInBounds_toArray, List.set_cons_zero, List.set_cons_succ, Nat.zero_add, Nat.reduceAdd, p0] at hK ⊢
      have HK := Lib.hid hK
      clear hK
      refine Held.mk ?_
      go_simp
      with_reducible refine (CB.out _ (hw2.trans (hb.mono hw2.size))).mono ?_
      rintro e w1 ⟨⟨ds, rfl, hd⟩, hb1⟩
      dsimp only
      exact HK.out _ _ ⟨ds, rfl⟩ (hj.copyB hd hb1) hb1
    -- 4: Op.alloc 26
    refine RC.ls_gen (MPpt) ?_ ?_
    · intro x w' hb hj hpre K hK
      clear hpre
      simp only [frL, Act.put, List.setIfInBounds_toArray, List.set_cons_zero, List.set_cons_succ, Nat.zero_add, Nat.reduceAdd] at hK ⊢
      have HK := Lib.hid hK
      clear hK
      refine Held.mk ?_
      go_simp
      exact HK.out _ _ ⟨_, rfl⟩ (hj.makeA hb.size) ((Below.refl _ _).alloc (Nat.le_refl _) _)
    -- 5: Op.alloc 26
    refine RC.ls_gen (MPpt) ?_ ?_
    · intro x w' hb hj hpre K hK
      clear hpre
      simp only [frL, Act.put, List.setIfInBounds_toArray, List.set_cons_zero, List.set_cons_succ, Nat.zero_add, Nat.reduceAdd] at hK ⊢
      have HK := Lib.hid hK
      clear hK
      refine Held.mk ?_
      go_simp
      exact HK.out _ _ ⟨_, rfl⟩ (hj.makeB hb.size) ((Below.refl _ _).alloc (Nat.le_refl _) _)
    intro x w' hb hp hJ
    simp only [List.cons_append, List.nil_append, RC.phis, RC.MP.val, frL, Act.put, List.setIfInBounds_toArray, List.set_cons_zero, List.set_cons_succ, Nat.zero_add, Nat.reduceAdd] at hp ⊢
    obtain ⟨h0, h1, h2, h3, h4, h5, -⟩ := hp
    obtain ⟨p, hp⟩ : ∃ q, x 4 = .pointer (some ⟨q, 0, none⟩) := h4
    obtain ⟨q, hq⟩ : ∃ q, x 5 = .pointer (some ⟨q, 0, none⟩) := h5
    obtain ⟨ds, hds⟩ : ∃ ds, x 1 = .agg ds := h1
    obtain ⟨es, hes⟩ : ∃ ds, x 3 = .agg ds := h3
    obtain ⟨BP, hlp⟩ := hJ.p p hp
    obtain ⟨BQ, hlq⟩ := hJ.q q hq
    have hpq := hJ.ne p q hp hq
    have TA := hJ.s ds hds
    have TB := hJ.t es hes
    have e0 : x 0 = .agg #[.int .i64 k, .string n, .string v, .slice aa la ca, .slice ka lk ck] := h0
    have e2 : x 2 = .agg #[.int .i64 k2, .string n2, .string v2, .slice ab lb cb, .slice kb ll cl] := h2
    obtain ⟨d0, d1, d2, d3, d4, rfl⟩ := arr5T TA.size
    obtain ⟨f0, f1, f2, f3, f4, rfl⟩ := arr5T TB.size
    obtain ⟨k3, n3, v3, ac, lc, cc, kc, lm, cm, rfl, rfl, rfl, rfl, rfl⟩ := TA.shape
    obtain ⟨k4, n4, v4, ad, ld, cd, kd, ln, cn, rfl, rfl, rfl, rfl, rfl⟩ := TB.shape
    simp only [hp, hq, hds, hes, e0, e2] at TA TB ⊢
    have hw3 : Below w.heap.size w w' := hw2.trans (hb.mono hw2.size)
    replace BA := BA.below hb BA.lt
    replace BB := BB.below hb BB.lt
    have np1 : w.heap.size ≠ p := by omega
    have np2 : w.heap.size + 1 ≠ p := by omega
    have nq1 : w.heap.size ≠ q := by omega
    have nq2 : w.heap.size + 1 ≠ q := by omega
    have wp0 : w.heap.size ≤ p := by omega
    have wq0 : w.heap.size ≤ q := by omega
    have hqp : q ≠ p := Ne.symm hpq
    have kP := BP.lt
    have kQ := BQ.lt
    clear e0 e2 h0 h2 hp hq hds hes hJ x kA kB a0 a1 a2 a3 a4 b0 b1 b2 b3 b4 hb hw2 hlp hlq CA CB
    have HTA := Lib.hid TA
    have HTB := Lib.hid TB
    have HBA := Lib.hid BA
    have HBB := Lib.hid BB
    clear TA TB BA BB
    obtain ⟨⟨x0, x1, x2, x3, x4⟩, y0, y1, y2, y3, y4⟩ := BP.five5
    obtain ⟨⟨u0, u1, u2, u3, u4⟩, v0, v1, v2', v3', v4'⟩ := BQ.five5
    have HBP := Lib.hid BP
    have HBQ := Lib.hid BQ
    clear BP BQ
    show wpList Tryd.prog _ _ [_, _] _ _
    go_wp2_with fail
    obtain ⟨BP, oth1, kept1, bel1⟩ := put5w (d0 := .int .i64 k3) (d1 := .string n3) (d2 := .string v3) (d3 := .slice ac lc cc) (d4 := .slice kc lm cm) HBP.out
    have BQ := oth1 _ _ _ hqp HBQ.out
    have BA := oth1 _ _ _ np1 HBA.out
    have BB := oth1 _ _ _ np2 HBB.out
    have hw4 := bel1 _ _ wp0 hw3
    have TA := HTA.out.go (T := fun i => i ≠ q) ⟨kept1.size, fun b o h => kept1.cell b o (fun e => h.1 (by rw [e]))⟩ (fun b h _ e => h.2 (by rw [e]))
    have TB := HTB.out.go (T := fun i => i ≠ q) ⟨kept1.size, fun b o h => kept1.cell b o (fun e => h.1 (by rw [e]))⟩ (fun b h _ e => h.2 (by rw [e]))
    clear oth1 kept1 bel1 HTA HTB HBA HBB HBP HBQ hw3 x0 x1 x2 x3 x4 u0 u1 u2 u3 u4 y0 y1 y2 y3 y4 v0 v1 v2' v3' v4' kP kQ
    generalize ((((w'.setCell ⟨p, 0, none⟩ (.int .i64 k3)).setCell ⟨p, 1, none⟩ (.string n3)).setCell ⟨p, 2, none⟩ (.string v3)).setCell ⟨p, 3, none⟩ (.slice ac lc cc)).setCell ⟨p, 4, none⟩ (.slice kc lm cm) = W4 at *
    obtain ⟨BQ5, oth1, kept1, bel1⟩ := put5w (d0 := .int .i64 k4) (d1 := .string n4) (d2 := .string v4) (d3 := .slice ad ld cd) (d4 := .slice kd ln cn) BQ
    replace BP := oth1 _ _ _ hpq BP
    replace BA := oth1 _ _ _ nq1 BA
    replace BB := oth1 _ _ _ nq2 BB
    have hw5 := bel1 _ _ wq0 hw4
    replace TA := TA.go (T := All) kept1 (fun _ _ _ => trivial)
    replace TB := TB.go (T := All) kept1 (fun _ _ _ => trivial)
    clear oth1 kept1 bel1 hw4 BQ
    generalize ((((W4.setCell ⟨q, 0, none⟩ (.int .i64 k4)).setCell ⟨q, 1, none⟩ (.string n4)).setCell ⟨q, 2, none⟩ (.string v4)).setCell ⟨q, 3, none⟩ (.slice ad ld cd)).setCell ⟨q, 4, none⟩ (.slice kd ln cn) = W5 at *
    have CT := Lib.hid (fun w' (hb : Below W5.heap.size W5 w') => trees_any N a b _ _ w' (TA.on hb) (TB.on hb) SA.out SB.out)
    have CR := Lib.hid (fun w' (hb : Below W5.heap.size W5 w') => rtrees_any N All All a b _ _ w' ((HA.out.on hw5).on hb) ((HB.out.on hw5).on hb) SA.out SB.out)
    have CS := Lib.hid (fun w' (hb : Below W5.heap.size W5 w') => same_any N All All a _ _ w' (TA.on hb) ((HA.out.on hw5).on hb))
    have CU := Lib.hid (fun w' (hb : Below W5.heap.size W5 w') => same_any N All All b _ _ w' (TB.on hb) ((HB.out.on hw5).on hb))
    clear TA TB
    generalize deepF N a b = D at *
    have kA := BA.lt
    have kB := BB.lt
    have kP := BP.lt
    have kQ := BQ5.lt
    obtain ⟨⟨a0, a1, a2, a3, a4⟩, -⟩ := BA.five5
    obtain ⟨⟨b0, b1, b2, b3, b4⟩, -⟩ := BB.five5
    obtain ⟨⟨x0, x1, x2, x3, x4⟩, -⟩ := BP.five5
    obtain ⟨⟨u0, u1, u2, u3, u4⟩, -⟩ := BQ5.five5
    refine RC.region_steps (R := RB) 17 [some 21, some 22, some 23, some 24, some 25, some 26, some 27, some 28, some 29, some 30, some 31, some 32, some 33, some 34, some 35, some 36, some 37] (fun _ _ => True) (fun a b c h1 h2 => h1.trans (h2.mono h1.size)) (fun w => below_drewN (Below.refl _ w) 1) (fun _ => trivial) (by kernel_rfl) (by kernel_rfl) ?_
    -- 0: Op.load 26 (Operand.tmp 5)
    apply RC.ls_val (fun _ _ _ _ _ _ => trivial)
    · intro x w' hb hpre K hK
      have za0 := (hb.cell (p := ⟨w.heap.size, 0, none⟩) kA).trans a0
      have za1 := (hb.cell (p := ⟨w.heap.size, 1, none⟩) kA).trans a1
      have za2 := (hb.cell (p := ⟨w.heap.size, 2, none⟩) kA).trans a2
      have za3 := (hb.cell (p := ⟨w.heap.size, 3, none⟩) kA).trans a3
      have za4 := (hb.cell (p := ⟨w.heap.size, 4, none⟩) kA).trans a4
      have zb0 := (hb.cell (p := ⟨w.heap.size + 1, 0, none⟩) kB).trans b0
      have zb1 := (hb.cell (p := ⟨w.heap.size + 1, 1, none⟩) kB).trans b1
      have zb2 := (hb.cell (p := ⟨w.heap.size + 1, 2, none⟩) kB).trans b2
      have zb3 := (hb.cell (p := ⟨w.heap.size + 1, 3, none⟩) kB).trans b3
      have zb4 := (hb.cell (p := ⟨w.heap.size + 1, 4, none⟩) kB).trans b4
      have zx0 := (hb.cell (p := ⟨p, 0, none⟩) kP).trans x0
      have zx1 := (hb.cell (p := ⟨p, 1, none⟩) kP).trans x1
      have zx2 := (hb.cell (p := ⟨p, 2, none⟩) kP).trans x2
      have zx3 := (hb.cell (p := ⟨p, 3, none⟩) kP).trans x3
      have zx4 := (hb.cell (p := ⟨p, 4, none⟩) kP).trans x4
      have zu0 := (hb.cell (p := ⟨q, 0, none⟩) kQ).trans u0
      have zu1 := (hb.cell (p := ⟨q, 1, none⟩) kQ).trans u1
      have zu2 := (hb.cell (p := ⟨q, 2, none⟩) kQ).trans u2
      have zu3 := (hb.cell (p := ⟨q, 3, none⟩) kQ).trans u3
      have zu4 := (hb.cell (p := ⟨q, 4, none⟩) kQ).trans u4
      clear hpre
      simp only [frL, Act.put, List.setIfInBounds_toArray, List.set_cons_zero, List.set_cons_succ, Nat.zero_add, Nat.reduceAdd] at hK ⊢
      have HK := Lib.hid hK
      clear hK
      refine Held.mk ?_
      go_simp
      exact HK.out _ (Below.refl _ _)
    -- 1: Op.load 26 (Operand.tmp 6)
    apply RC.ls_val (fun _ _ _ _ _ _ => trivial)
    · intro x w' hb hpre K hK
      have za0 := (hb.cell (p := ⟨w.heap.size, 0, none⟩) kA).trans a0
      have za1 := (hb.cell (p := ⟨w.heap.size, 1, none⟩) kA).trans a1
      have za2 := (hb.cell (p := ⟨w.heap.size, 2, none⟩) kA).trans a2
      have za3 := (hb.cell (p := ⟨w.heap.size, 3, none⟩) kA).trans a3
      have za4 := (hb.cell (p := ⟨w.heap.size, 4, none⟩) kA).trans a4
      have zb0 := (hb.cell (p := ⟨w.heap.size + 1, 0, none⟩) kB).trans b0
      have zb1 := (hb.cell (p := ⟨w.heap.size + 1, 1, none⟩) kB).trans b1
      have zb2 := (hb.cell (p := ⟨w.heap.size + 1, 2, none⟩) kB).trans b2
      have zb3 := (hb.cell (p := ⟨w.heap.size + 1, 3, none⟩) kB).trans b3
      have zb4 := (hb.cell (p := ⟨w.heap.size + 1, 4, none⟩) kB).trans b4
      have zx0 := (hb.cell (p := ⟨p, 0, none⟩) kP).trans x0
      have zx1 := (hb.cell (p := ⟨p, 1, none⟩) kP).trans x1
      have zx2 := (hb.cell (p := ⟨p, 2, none⟩) kP).trans x2
      have zx3 := (hb.cell (p := ⟨p, 3, none⟩) kP).trans x3
      have zx4 := (hb.cell (p := ⟨p, 4, none⟩) kP).trans x4
      have zu0 := (hb.cell (p := ⟨q, 0, none⟩) kQ).trans u0
      have zu1 := (hb.cell (p := ⟨q, 1, none⟩) kQ).trans u1
      have zu2 := (hb.cell (p := ⟨q, 2, none⟩) kQ).trans u2
      have zu3 := (hb.cell (p := ⟨q, 3, none⟩) kQ).trans u3
      have zu4 := (hb.cell (p := ⟨q, 4, none⟩) kQ).trans u4
      clear hpre
      simp only [frL, Act.put, List.setIfInBounds_toArray, List.set_cons_zero, List.set_cons_succ, Nat.zero_add, Nat.reduceAdd] at hK ⊢
      have HK := Lib.hid hK
      clear hK
      refine Held.mk ?_
      go_simp
      exact HK.out _ (Below.refl _ _)
    -- 2: Op.call { callee := Callee.value (Operand.func 8), args := #[Operand.tmp 21, Ope
    apply RC.ls_val (fun _ _ _ _ _ _ => trivial)
    · intro x w' hb hpre K hK
      have za0 := (hb.cell (p := ⟨w.heap.size, 0, none⟩) kA).trans a0
      have za1 := (hb.cell (p := ⟨w.heap.size, 1, none⟩) kA).trans a1
      have za2 := (hb.cell (p := ⟨w.heap.size, 2, none⟩) kA).trans a2
      have za3 := (hb.cell (p := ⟨w.heap.size, 3, none⟩) kA).trans a3
      have za4 := (hb.cell (p := ⟨w.heap.size, 4, none⟩) kA).trans a4
      have zb0 := (hb.cell (p := ⟨w.heap.size + 1, 0, none⟩) kB).trans b0
      have zb1 := (hb.cell (p := ⟨w.heap.size + 1, 1, none⟩) kB).trans b1
      have zb2 := (hb.cell (p := ⟨w.heap.size + 1, 2, none⟩) kB).trans b2
      have zb3 := (hb.cell (p := ⟨w.heap.size + 1, 3, none⟩) kB).trans b3
      have zb4 := (hb.cell (p := ⟨w.heap.size + 1, 4, none⟩) kB).trans b4
      have zx0 := (hb.cell (p := ⟨p, 0, none⟩) kP).trans x0
      have zx1 := (hb.cell (p := ⟨p, 1, none⟩) kP).trans x1
      have zx2 := (hb.cell (p := ⟨p, 2, none⟩) kP).trans x2
      have zx3 := (hb.cell (p := ⟨p, 3, none⟩) kP).trans x3
      have zx4 := (hb.cell (p := ⟨p, 4, none⟩) kP).trans x4
      have zu0 := (hb.cell (p := ⟨q, 0, none⟩) kQ).trans u0
      have zu1 := (hb.cell (p := ⟨q, 1, none⟩) kQ).trans u1
      have zu2 := (hb.cell (p := ⟨q, 2, none⟩) kQ).trans u2
      have zu3 := (hb.cell (p := ⟨q, 3, none⟩) kQ).trans u3
      have zu4 := (hb.cell (p := ⟨q, 4, none⟩) kQ).trans u4
      simp [preds, Region.binds, RC.phi, RC.MP.val] at hpre
      simp only [frL, Act.put, List.setIfInBounds_toArray, List.set_cons_zero, List.set_cons_succ, Nat.zero_add, Nat.reduceAdd, hpre] at hK ⊢
      have HK := Lib.hid hK
      clear hK
      refine Held.mk ?_
      go_simp
      (with_reducible refine (CT.out _ hb).mono ?_)
      rintro e w1 ⟨rfl, hb1⟩
      dsimp only
      exact HK.out _ hb1
    -- 3: Op.load 26 (Operand.tmp 2)
    apply RC.ls_val (fun _ _ _ _ _ _ => trivial)
    · intro x w' hb hpre K hK
      have za0 := (hb.cell (p := ⟨w.heap.size, 0, none⟩) kA).trans a0
      have za1 := (hb.cell (p := ⟨w.heap.size, 1, none⟩) kA).trans a1
      have za2 := (hb.cell (p := ⟨w.heap.size, 2, none⟩) kA).trans a2
      have za3 := (hb.cell (p := ⟨w.heap.size, 3, none⟩) kA).trans a3
      have za4 := (hb.cell (p := ⟨w.heap.size, 4, none⟩) kA).trans a4
      have zb0 := (hb.cell (p := ⟨w.heap.size + 1, 0, none⟩) kB).trans b0
      have zb1 := (hb.cell (p := ⟨w.heap.size + 1, 1, none⟩) kB).trans b1
      have zb2 := (hb.cell (p := ⟨w.heap.size + 1, 2, none⟩) kB).trans b2
      have zb3 := (hb.cell (p := ⟨w.heap.size + 1, 3, none⟩) kB).trans b3
      have zb4 := (hb.cell (p := ⟨w.heap.size + 1, 4, none⟩) kB).trans b4
      have zx0 := (hb.cell (p := ⟨p, 0, none⟩) kP).trans x0
      have zx1 := (hb.cell (p := ⟨p, 1, none⟩) kP).trans x1
      have zx2 := (hb.cell (p := ⟨p, 2, none⟩) kP).trans x2
      have zx3 := (hb.cell (p := ⟨p, 3, none⟩) kP).trans x3
      have zx4 := (hb.cell (p := ⟨p, 4, none⟩) kP).trans x4
      have zu0 := (hb.cell (p := ⟨q, 0, none⟩) kQ).trans u0
      have zu1 := (hb.cell (p := ⟨q, 1, none⟩) kQ).trans u1
      have zu2 := (hb.cell (p := ⟨q, 2, none⟩) kQ).trans u2
      have zu3 := (hb.cell (p := ⟨q, 3, none⟩) kQ).trans u3
      have zu4 := (hb.cell (p := ⟨q, 4, none⟩) kQ).trans u4
      clear hpre
      simp only [frL, Act.put, List.setIfInBounds_toArray, List.set_cons_zero, List.set_cons_succ, Nat.zero_add, Nat.reduceAdd] at hK ⊢
      have HK := Lib.hid hK
      clear hK
      refine Held.mk ?_
      go_simp
      exact HK.out _ (Below.refl _ _)
    -- 4: Op.load 26 (Operand.tmp 3)
    apply RC.ls_val (fun _ _ _ _ _ _ => trivial)
    · intro x w' hb hpre K hK
      have za0 := (hb.cell (p := ⟨w.heap.size, 0, none⟩) kA).trans a0
      have za1 := (hb.cell (p := ⟨w.heap.size, 1, none⟩) kA).trans a1
      have za2 := (hb.cell (p := ⟨w.heap.size, 2, none⟩) kA).trans a2
      have za3 := (hb.cell (p := ⟨w.heap.size, 3, none⟩) kA).trans a3
      have za4 := (hb.cell (p := ⟨w.heap.size, 4, none⟩) kA).trans a4
      have zb0 := (hb.cell (p := ⟨w.heap.size + 1, 0, none⟩) kB).trans b0
      have zb1 := (hb.cell (p := ⟨w.heap.size + 1, 1, none⟩) kB).trans b1
      have zb2 := (hb.cell (p := ⟨w.heap.size + 1, 2, none⟩) kB).trans b2
      have zb3 := (hb.cell (p := ⟨w.heap.size + 1, 3, none⟩) kB).trans b3
      have zb4 := (hb.cell (p := ⟨w.heap.size + 1, 4, none⟩) kB).trans b4
      have zx0 := (hb.cell (p := ⟨p, 0, none⟩) kP).trans x0
      have zx1 := (hb.cell (p := ⟨p, 1, none⟩) kP).trans x1
      have zx2 := (hb.cell (p := ⟨p, 2, none⟩) kP).trans x2
      have zx3 := (hb.cell (p := ⟨p, 3, none⟩) kP).trans x3
      have zx4 := (hb.cell (p := ⟨p, 4, none⟩) kP).trans x4
      have zu0 := (hb.cell (p := ⟨q, 0, none⟩) kQ).trans u0
      have zu1 := (hb.cell (p := ⟨q, 1, none⟩) kQ).trans u1
      have zu2 := (hb.cell (p := ⟨q, 2, none⟩) kQ).trans u2
      have zu3 := (hb.cell (p := ⟨q, 3, none⟩) kQ).trans u3
      have zu4 := (hb.cell (p := ⟨q, 4, none⟩) kQ).trans u4
      clear hpre
      simp only [frL, Act.put, List.setIfInBounds_toArray, List.set_cons_zero, List.set_cons_succ, Nat.zero_add, Nat.reduceAdd] at hK ⊢
      have HK := Lib.hid hK
      clear hK
      refine Held.mk ?_
      go_simp
      exact HK.out _ (Below.refl _ _)
    -- 5: Op.call { callee := Callee.value (Operand.func 9), args := #[Operand.tmp 24, Ope
    apply RC.ls_val (fun _ _ _ _ _ _ => trivial)
    · intro x w' hb hpre K hK
      have za0 := (hb.cell (p := ⟨w.heap.size, 0, none⟩) kA).trans a0
      have za1 := (hb.cell (p := ⟨w.heap.size, 1, none⟩) kA).trans a1
      have za2 := (hb.cell (p := ⟨w.heap.size, 2, none⟩) kA).trans a2
      have za3 := (hb.cell (p := ⟨w.heap.size, 3, none⟩) kA).trans a3
      have za4 := (hb.cell (p := ⟨w.heap.size, 4, none⟩) kA).trans a4
      have zb0 := (hb.cell (p := ⟨w.heap.size + 1, 0, none⟩) kB).trans b0
      have zb1 := (hb.cell (p := ⟨w.heap.size + 1, 1, none⟩) kB).trans b1
      have zb2 := (hb.cell (p := ⟨w.heap.size + 1, 2, none⟩) kB).trans b2
      have zb3 := (hb.cell (p := ⟨w.heap.size + 1, 3, none⟩) kB).trans b3
      have zb4 := (hb.cell (p := ⟨w.heap.size + 1, 4, none⟩) kB).trans b4
      have zx0 := (hb.cell (p := ⟨p, 0, none⟩) kP).trans x0
      have zx1 := (hb.cell (p := ⟨p, 1, none⟩) kP).trans x1
      have zx2 := (hb.cell (p := ⟨p, 2, none⟩) kP).trans x2
      have zx3 := (hb.cell (p := ⟨p, 3, none⟩) kP).trans x3
      have zx4 := (hb.cell (p := ⟨p, 4, none⟩) kP).trans x4
      have zu0 := (hb.cell (p := ⟨q, 0, none⟩) kQ).trans u0
      have zu1 := (hb.cell (p := ⟨q, 1, none⟩) kQ).trans u1
      have zu2 := (hb.cell (p := ⟨q, 2, none⟩) kQ).trans u2
      have zu3 := (hb.cell (p := ⟨q, 3, none⟩) kQ).trans u3
      have zu4 := (hb.cell (p := ⟨q, 4, none⟩) kQ).trans u4
      simp [preds, Region.binds, RC.phi, RC.MP.val] at hpre
      simp only [frL, Act.put, List.setIfInBounds_toArray, List.set_cons_zero, List.set_cons_succ, Nat.zero_add, Nat.reduceAdd, hpre] at hK ⊢
      have HK := Lib.hid hK
      clear hK
      refine Held.mk ?_
      go_simp
      (with_reducible refine (CR.out _ hb).mono ?_)
      rintro e w1 ⟨rfl, hb1⟩
      dsimp only
      exact HK.out _ hb1
    -- 6: Op.binOp BinOp.eql 4 (Operand.tmp 23) (Operand.tmp 26) 4
    apply RC.ls_val (fun _ _ _ _ _ _ => trivial)
    · intro x w' hb hpre K hK
      have za0 := (hb.cell (p := ⟨w.heap.size, 0, none⟩) kA).trans a0
      have za1 := (hb.cell (p := ⟨w.heap.size, 1, none⟩) kA).trans a1
      have za2 := (hb.cell (p := ⟨w.heap.size, 2, none⟩) kA).trans a2
      have za3 := (hb.cell (p := ⟨w.heap.size, 3, none⟩) kA).trans a3
      have za4 := (hb.cell (p := ⟨w.heap.size, 4, none⟩) kA).trans a4
      have zb0 := (hb.cell (p := ⟨w.heap.size + 1, 0, none⟩) kB).trans b0
      have zb1 := (hb.cell (p := ⟨w.heap.size + 1, 1, none⟩) kB).trans b1
      have zb2 := (hb.cell (p := ⟨w.heap.size + 1, 2, none⟩) kB).trans b2
      have zb3 := (hb.cell (p := ⟨w.heap.size + 1, 3, none⟩) kB).trans b3
      have zb4 := (hb.cell (p := ⟨w.heap.size + 1, 4, none⟩) kB).trans b4
      have zx0 := (hb.cell (p := ⟨p, 0, none⟩) kP).trans x0
      have zx1 := (hb.cell (p := ⟨p, 1, none⟩) kP).trans x1
      have zx2 := (hb.cell (p := ⟨p, 2, none⟩) kP).trans x2
      have zx3 := (hb.cell (p := ⟨p, 3, none⟩) kP).trans x3
      have zx4 := (hb.cell (p := ⟨p, 4, none⟩) kP).trans x4
      have zu0 := (hb.cell (p := ⟨q, 0, none⟩) kQ).trans u0
      have zu1 := (hb.cell (p := ⟨q, 1, none⟩) kQ).trans u1
      have zu2 := (hb.cell (p := ⟨q, 2, none⟩) kQ).trans u2
      have zu3 := (hb.cell (p := ⟨q, 3, none⟩) kQ).trans u3
      have zu4 := (hb.cell (p := ⟨q, 4, none⟩) kQ).trans u4
      simp [preds, Region.binds, RC.phi, RC.MP.val] at hpre
      simp only [frL, Act.put, List.setIfInBounds_toArray, List.set_cons_zero, List.set_cons_succ, Nat.zero_add, Nat.reduceAdd, hpre] at hK ⊢
      have HK := Lib.hid hK
      clear hK
      refine Held.mk ?_
      go_simp
      exact HK.out _ (Below.refl _ _)
    -- 7: Op.move (Operand.tmp 27)
    apply RC.ls_val (fun _ _ _ _ _ _ => trivial)
    · intro x w' hb hpre K hK
      have za0 := (hb.cell (p := ⟨w.heap.size, 0, none⟩) kA).trans a0
      have za1 := (hb.cell (p := ⟨w.heap.size, 1, none⟩) kA).trans a1
      have za2 := (hb.cell (p := ⟨w.heap.size, 2, none⟩) kA).trans a2
      have za3 := (hb.cell (p := ⟨w.heap.size, 3, none⟩) kA).trans a3
      have za4 := (hb.cell (p := ⟨w.heap.size, 4, none⟩) kA).trans a4
      have zb0 := (hb.cell (p := ⟨w.heap.size + 1, 0, none⟩) kB).trans b0
      have zb1 := (hb.cell (p := ⟨w.heap.size + 1, 1, none⟩) kB).trans b1
      have zb2 := (hb.cell (p := ⟨w.heap.size + 1, 2, none⟩) kB).trans b2
      have zb3 := (hb.cell (p := ⟨w.heap.size + 1, 3, none⟩) kB).trans b3
      have zb4 := (hb.cell (p := ⟨w.heap.size + 1, 4, none⟩) kB).trans b4
      have zx0 := (hb.cell (p := ⟨p, 0, none⟩) kP).trans x0
      have zx1 := (hb.cell (p := ⟨p, 1, none⟩) kP).trans x1
      have zx2 := (hb.cell (p := ⟨p, 2, none⟩) kP).trans x2
      have zx3 := (hb.cell (p := ⟨p, 3, none⟩) kP).trans x3
      have zx4 := (hb.cell (p := ⟨p, 4, none⟩) kP).trans x4
      have zu0 := (hb.cell (p := ⟨q, 0, none⟩) kQ).trans u0
      have zu1 := (hb.cell (p := ⟨q, 1, none⟩) kQ).trans u1
      have zu2 := (hb.cell (p := ⟨q, 2, none⟩) kQ).trans u2
      have zu3 := (hb.cell (p := ⟨q, 3, none⟩) kQ).trans u3
      have zu4 := (hb.cell (p := ⟨q, 4, none⟩) kQ).trans u4
      simp [preds, Region.binds, RC.phi, RC.MP.val] at hpre
      simp only [frL, Act.put, List.setIfInBounds_toArray, List.set_cons_zero, List.set_cons_succ, Nat.zero_add, Nat.reduceAdd, hpre] at hK ⊢
      have HK := Lib.hid hK
      clear hK
      refine Held.mk ?_
      go_simp
      exact HK.out _ (Below.refl _ _)
    -- 8: Op.load 26 (Operand.tmp 5)
    apply RC.ls_val (fun _ _ _ _ _ _ => trivial)
    · intro x w' hb hpre K hK
      have za0 := (hb.cell (p := ⟨w.heap.size, 0, none⟩) kA).trans a0
      have za1 := (hb.cell (p := ⟨w.heap.size, 1, none⟩) kA).trans a1
      have za2 := (hb.cell (p := ⟨w.heap.size, 2, none⟩) kA).trans a2
      have za3 := (hb.cell (p := ⟨w.heap.size, 3, none⟩) kA).trans a3
      have za4 := (hb.cell (p := ⟨w.heap.size, 4, none⟩) kA).trans a4
      have zb0 := (hb.cell (p := ⟨w.heap.size + 1, 0, none⟩) kB).trans b0
      have zb1 := (hb.cell (p := ⟨w.heap.size + 1, 1, none⟩) kB).trans b1
      have zb2 := (hb.cell (p := ⟨w.heap.size + 1, 2, none⟩) kB).trans b2
      have zb3 := (hb.cell (p := ⟨w.heap.size + 1, 3, none⟩) kB).trans b3
      have zb4 := (hb.cell (p := ⟨w.heap.size + 1, 4, none⟩) kB).trans b4
      have zx0 := (hb.cell (p := ⟨p, 0, none⟩) kP).trans x0
      have zx1 := (hb.cell (p := ⟨p, 1, none⟩) kP).trans x1
      have zx2 := (hb.cell (p := ⟨p, 2, none⟩) kP).trans x2
      have zx3 := (hb.cell (p := ⟨p, 3, none⟩) kP).trans x3
      have zx4 := (hb.cell (p := ⟨p, 4, none⟩) kP).trans x4
      have zu0 := (hb.cell (p := ⟨q, 0, none⟩) kQ).trans u0
      have zu1 := (hb.cell (p := ⟨q, 1, none⟩) kQ).trans u1
      have zu2 := (hb.cell (p := ⟨q, 2, none⟩) kQ).trans u2
      have zu3 := (hb.cell (p := ⟨q, 3, none⟩) kQ).trans u3
      have zu4 := (hb.cell (p := ⟨q, 4, none⟩) kQ).trans u4
      simp [preds, Region.binds, RC.phi, RC.MP.val] at hpre
      simp only [frL, Act.put, List.setIfInBounds_toArray, List.set_cons_zero, List.set_cons_succ, Nat.zero_add, Nat.reduceAdd, hpre] at hK ⊢
      have HK := Lib.hid hK
      clear hK
      refine Held.mk ?_
      go_simp
      exact HK.out _ (Below.refl _ _)
    -- 9: Op.load 26 (Operand.tmp 2)
    apply RC.ls_val (fun _ _ _ _ _ _ => trivial)
    · intro x w' hb hpre K hK
      have za0 := (hb.cell (p := ⟨w.heap.size, 0, none⟩) kA).trans a0
      have za1 := (hb.cell (p := ⟨w.heap.size, 1, none⟩) kA).trans a1
      have za2 := (hb.cell (p := ⟨w.heap.size, 2, none⟩) kA).trans a2
      have za3 := (hb.cell (p := ⟨w.heap.size, 3, none⟩) kA).trans a3
      have za4 := (hb.cell (p := ⟨w.heap.size, 4, none⟩) kA).trans a4
      have zb0 := (hb.cell (p := ⟨w.heap.size + 1, 0, none⟩) kB).trans b0
      have zb1 := (hb.cell (p := ⟨w.heap.size + 1, 1, none⟩) kB).trans b1
      have zb2 := (hb.cell (p := ⟨w.heap.size + 1, 2, none⟩) kB).trans b2
      have zb3 := (hb.cell (p := ⟨w.heap.size + 1, 3, none⟩) kB).trans b3
      have zb4 := (hb.cell (p := ⟨w.heap.size + 1, 4, none⟩) kB).trans b4
      have zx0 := (hb.cell (p := ⟨p, 0, none⟩) kP).trans x0
      have zx1 := (hb.cell (p := ⟨p, 1, none⟩) kP).trans x1
      have zx2 := (hb.cell (p := ⟨p, 2, none⟩) kP).trans x2
      have zx3 := (hb.cell (p := ⟨p, 3, none⟩) kP).trans x3
      have zx4 := (hb.cell (p := ⟨p, 4, none⟩) kP).trans x4
      have zu0 := (hb.cell (p := ⟨q, 0, none⟩) kQ).trans u0
      have zu1 := (hb.cell (p := ⟨q, 1, none⟩) kQ).trans u1
      have zu2 := (hb.cell (p := ⟨q, 2, none⟩) kQ).trans u2
      have zu3 := (hb.cell (p := ⟨q, 3, none⟩) kQ).trans u3
      have zu4 := (hb.cell (p := ⟨q, 4, none⟩) kQ).trans u4
      simp [preds, Region.binds, RC.phi, RC.MP.val] at hpre
      simp only [frL, Act.put, List.setIfInBounds_toArray, List.set_cons_zero, List.set_cons_succ, Nat.zero_add, Nat.reduceAdd, hpre] at hK ⊢
      have HK := Lib.hid hK
      clear hK
      refine Held.mk ?_
      go_simp
      exact HK.out _ (Below.refl _ _)
    -- 10: Op.call { callee := Callee.value (Operand.func 10), args := #[Operand.tmp 29, Op
    apply RC.ls_val (fun _ _ _ _ _ _ => trivial)
    · intro x w' hb hpre K hK
      have za0 := (hb.cell (p := ⟨w.heap.size, 0, none⟩) kA).trans a0
      have za1 := (hb.cell (p := ⟨w.heap.size, 1, none⟩) kA).trans a1
      have za2 := (hb.cell (p := ⟨w.heap.size, 2, none⟩) kA).trans a2
      have za3 := (hb.cell (p := ⟨w.heap.size, 3, none⟩) kA).trans a3
      have za4 := (hb.cell (p := ⟨w.heap.size, 4, none⟩) kA).trans a4
      have zb0 := (hb.cell (p := ⟨w.heap.size + 1, 0, none⟩) kB).trans b0
      have zb1 := (hb.cell (p := ⟨w.heap.size + 1, 1, none⟩) kB).trans b1
      have zb2 := (hb.cell (p := ⟨w.heap.size + 1, 2, none⟩) kB).trans b2
      have zb3 := (hb.cell (p := ⟨w.heap.size + 1, 3, none⟩) kB).trans b3
      have zb4 := (hb.cell (p := ⟨w.heap.size + 1, 4, none⟩) kB).trans b4
      have zx0 := (hb.cell (p := ⟨p, 0, none⟩) kP).trans x0
      have zx1 := (hb.cell (p := ⟨p, 1, none⟩) kP).trans x1
      have zx2 := (hb.cell (p := ⟨p, 2, none⟩) kP).trans x2
      have zx3 := (hb.cell (p := ⟨p, 3, none⟩) kP).trans x3
      have zx4 := (hb.cell (p := ⟨p, 4, none⟩) kP).trans x4
      have zu0 := (hb.cell (p := ⟨q, 0, none⟩) kQ).trans u0
      have zu1 := (hb.cell (p := ⟨q, 1, none⟩) kQ).trans u1
      have zu2 := (hb.cell (p := ⟨q, 2, none⟩) kQ).trans u2
      have zu3 := (hb.cell (p := ⟨q, 3, none⟩) kQ).trans u3
      have zu4 := (hb.cell (p := ⟨q, 4, none⟩) kQ).trans u4
      simp [preds, Region.binds, RC.phi, RC.MP.val] at hpre
      simp only [frL, Act.put, List.setIfInBounds_toArray, List.set_cons_zero, List.set_cons_succ, Nat.zero_add, Nat.reduceAdd, hpre] at hK ⊢
      have HK := Lib.hid hK
      clear hK
      refine Held.mk ?_
      go_simp
      (with_reducible refine (CS.out _ hb).mono ?_)
      rintro e w1 ⟨rfl, hb1⟩
      dsimp only
      exact HK.out _ hb1
    -- 11: Op.pick (Operand.tmp 28) (Operand.tmp 31) (Operand.const (Value.bool false))
    apply RC.ls_val (fun _ _ _ _ _ _ => trivial)
    · intro x w' hb hpre K hK
      have za0 := (hb.cell (p := ⟨w.heap.size, 0, none⟩) kA).trans a0
      have za1 := (hb.cell (p := ⟨w.heap.size, 1, none⟩) kA).trans a1
      have za2 := (hb.cell (p := ⟨w.heap.size, 2, none⟩) kA).trans a2
      have za3 := (hb.cell (p := ⟨w.heap.size, 3, none⟩) kA).trans a3
      have za4 := (hb.cell (p := ⟨w.heap.size, 4, none⟩) kA).trans a4
      have zb0 := (hb.cell (p := ⟨w.heap.size + 1, 0, none⟩) kB).trans b0
      have zb1 := (hb.cell (p := ⟨w.heap.size + 1, 1, none⟩) kB).trans b1
      have zb2 := (hb.cell (p := ⟨w.heap.size + 1, 2, none⟩) kB).trans b2
      have zb3 := (hb.cell (p := ⟨w.heap.size + 1, 3, none⟩) kB).trans b3
      have zb4 := (hb.cell (p := ⟨w.heap.size + 1, 4, none⟩) kB).trans b4
      have zx0 := (hb.cell (p := ⟨p, 0, none⟩) kP).trans x0
      have zx1 := (hb.cell (p := ⟨p, 1, none⟩) kP).trans x1
      have zx2 := (hb.cell (p := ⟨p, 2, none⟩) kP).trans x2
      have zx3 := (hb.cell (p := ⟨p, 3, none⟩) kP).trans x3
      have zx4 := (hb.cell (p := ⟨p, 4, none⟩) kP).trans x4
      have zu0 := (hb.cell (p := ⟨q, 0, none⟩) kQ).trans u0
      have zu1 := (hb.cell (p := ⟨q, 1, none⟩) kQ).trans u1
      have zu2 := (hb.cell (p := ⟨q, 2, none⟩) kQ).trans u2
      have zu3 := (hb.cell (p := ⟨q, 3, none⟩) kQ).trans u3
      have zu4 := (hb.cell (p := ⟨q, 4, none⟩) kQ).trans u4
      simp [preds, Region.binds, RC.phi, RC.MP.val] at hpre
      simp only [frL, Act.put, List.setIfInBounds_toArray, List.set_cons_zero, List.set_cons_succ, Nat.zero_add, Nat.reduceAdd, hpre] at hK ⊢
      have HK := Lib.hid hK
      clear hK
      refine Held.mk ?_
      go_simp
      exact HK.out _ (Below.refl _ _)
    -- 12: Op.move (Operand.tmp 32)
    apply RC.ls_val (fun _ _ _ _ _ _ => trivial)
    · intro x w' hb hpre K hK
      have za0 := (hb.cell (p := ⟨w.heap.size, 0, none⟩) kA).trans a0
      have za1 := (hb.cell (p := ⟨w.heap.size, 1, none⟩) kA).trans a1
      have za2 := (hb.cell (p := ⟨w.heap.size, 2, none⟩) kA).trans a2
      have za3 := (hb.cell (p := ⟨w.heap.size, 3, none⟩) kA).trans a3
      have za4 := (hb.cell (p := ⟨w.heap.size, 4, none⟩) kA).trans a4
      have zb0 := (hb.cell (p := ⟨w.heap.size + 1, 0, none⟩) kB).trans b0
      have zb1 := (hb.cell (p := ⟨w.heap.size + 1, 1, none⟩) kB).trans b1
      have zb2 := (hb.cell (p := ⟨w.heap.size + 1, 2, none⟩) kB).trans b2
      have zb3 := (hb.cell (p := ⟨w.heap.size + 1, 3, none⟩) kB).trans b3
      have zb4 := (hb.cell (p := ⟨w.heap.size + 1, 4, none⟩) kB).trans b4
      have zx0 := (hb.cell (p := ⟨p, 0, none⟩) kP).trans x0
      have zx1 := (hb.cell (p := ⟨p, 1, none⟩) kP).trans x1
      have zx2 := (hb.cell (p := ⟨p, 2, none⟩) kP).trans x2
      have zx3 := (hb.cell (p := ⟨p, 3, none⟩) kP).trans x3
      have zx4 := (hb.cell (p := ⟨p, 4, none⟩) kP).trans x4
      have zu0 := (hb.cell (p := ⟨q, 0, none⟩) kQ).trans u0
      have zu1 := (hb.cell (p := ⟨q, 1, none⟩) kQ).trans u1
      have zu2 := (hb.cell (p := ⟨q, 2, none⟩) kQ).trans u2
      have zu3 := (hb.cell (p := ⟨q, 3, none⟩) kQ).trans u3
      have zu4 := (hb.cell (p := ⟨q, 4, none⟩) kQ).trans u4
      simp [preds, Region.binds, RC.phi, RC.MP.val] at hpre
      simp only [frL, Act.put, List.setIfInBounds_toArray, List.set_cons_zero, List.set_cons_succ, Nat.zero_add, Nat.reduceAdd, hpre] at hK ⊢
      have HK := Lib.hid hK
      clear hK
      refine Held.mk ?_
      go_simp
      exact HK.out _ (Below.refl _ _)
    -- 13: Op.load 26 (Operand.tmp 6)
    apply RC.ls_val (fun _ _ _ _ _ _ => trivial)
    · intro x w' hb hpre K hK
      have za0 := (hb.cell (p := ⟨w.heap.size, 0, none⟩) kA).trans a0
      have za1 := (hb.cell (p := ⟨w.heap.size, 1, none⟩) kA).trans a1
      have za2 := (hb.cell (p := ⟨w.heap.size, 2, none⟩) kA).trans a2
      have za3 := (hb.cell (p := ⟨w.heap.size, 3, none⟩) kA).trans a3
      have za4 := (hb.cell (p := ⟨w.heap.size, 4, none⟩) kA).trans a4
      have zb0 := (hb.cell (p := ⟨w.heap.size + 1, 0, none⟩) kB).trans b0
      have zb1 := (hb.cell (p := ⟨w.heap.size + 1, 1, none⟩) kB).trans b1
      have zb2 := (hb.cell (p := ⟨w.heap.size + 1, 2, none⟩) kB).trans b2
      have zb3 := (hb.cell (p := ⟨w.heap.size + 1, 3, none⟩) kB).trans b3
      have zb4 := (hb.cell (p := ⟨w.heap.size + 1, 4, none⟩) kB).trans b4
      have zx0 := (hb.cell (p := ⟨p, 0, none⟩) kP).trans x0
      have zx1 := (hb.cell (p := ⟨p, 1, none⟩) kP).trans x1
      have zx2 := (hb.cell (p := ⟨p, 2, none⟩) kP).trans x2
      have zx3 := (hb.cell (p := ⟨p, 3, none⟩) kP).trans x3
      have zx4 := (hb.cell (p := ⟨p, 4, none⟩) kP).trans x4
      have zu0 := (hb.cell (p := ⟨q, 0, none⟩) kQ).trans u0
      have zu1 := (hb.cell (p := ⟨q, 1, none⟩) kQ).trans u1
      have zu2 := (hb.cell (p := ⟨q, 2, none⟩) kQ).trans u2
      have zu3 := (hb.cell (p := ⟨q, 3, none⟩) kQ).trans u3
      have zu4 := (hb.cell (p := ⟨q, 4, none⟩) kQ).trans u4
      simp [preds, Region.binds, RC.phi, RC.MP.val] at hpre
      simp only [frL, Act.put, List.setIfInBounds_toArray, List.set_cons_zero, List.set_cons_succ, Nat.zero_add, Nat.reduceAdd, hpre] at hK ⊢
      have HK := Lib.hid hK
      clear hK
      refine Held.mk ?_
      go_simp
      exact HK.out _ (Below.refl _ _)
    -- 14: Op.load 26 (Operand.tmp 3)
    apply RC.ls_val (fun _ _ _ _ _ _ => trivial)
    · intro x w' hb hpre K hK
      have za0 := (hb.cell (p := ⟨w.heap.size, 0, none⟩) kA).trans a0
      have za1 := (hb.cell (p := ⟨w.heap.size, 1, none⟩) kA).trans a1
      have za2 := (hb.cell (p := ⟨w.heap.size, 2, none⟩) kA).trans a2
      have za3 := (hb.cell (p := ⟨w.heap.size, 3, none⟩) kA).trans a3
      have za4 := (hb.cell (p := ⟨w.heap.size, 4, none⟩) kA).trans a4
      have zb0 := (hb.cell (p := ⟨w.heap.size + 1, 0, none⟩) kB).trans b0
      have zb1 := (hb.cell (p := ⟨w.heap.size + 1, 1, none⟩) kB).trans b1
      have zb2 := (hb.cell (p := ⟨w.heap.size + 1, 2, none⟩) kB).trans b2
      have zb3 := (hb.cell (p := ⟨w.heap.size + 1, 3, none⟩) kB).trans b3
      have zb4 := (hb.cell (p := ⟨w.heap.size + 1, 4, none⟩) kB).trans b4
      have zx0 := (hb.cell (p := ⟨p, 0, none⟩) kP).trans x0
      have zx1 := (hb.cell (p := ⟨p, 1, none⟩) kP).trans x1
      have zx2 := (hb.cell (p := ⟨p, 2, none⟩) kP).trans x2
      have zx3 := (hb.cell (p := ⟨p, 3, none⟩) kP).trans x3
      have zx4 := (hb.cell (p := ⟨p, 4, none⟩) kP).trans x4
      have zu0 := (hb.cell (p := ⟨q, 0, none⟩) kQ).trans u0
      have zu1 := (hb.cell (p := ⟨q, 1, none⟩) kQ).trans u1
      have zu2 := (hb.cell (p := ⟨q, 2, none⟩) kQ).trans u2
      have zu3 := (hb.cell (p := ⟨q, 3, none⟩) kQ).trans u3
      have zu4 := (hb.cell (p := ⟨q, 4, none⟩) kQ).trans u4
      simp [preds, Region.binds, RC.phi, RC.MP.val] at hpre
      simp only [frL, Act.put, List.setIfInBounds_toArray, List.set_cons_zero, List.set_cons_succ, Nat.zero_add, Nat.reduceAdd, hpre] at hK ⊢
      have HK := Lib.hid hK
      clear hK
      refine Held.mk ?_
      go_simp
      exact HK.out _ (Below.refl _ _)
    -- 15: Op.call { callee := Callee.value (Operand.func 10), args := #[Operand.tmp 34, Op
    apply RC.ls_val (fun _ _ _ _ _ _ => trivial)
    · intro x w' hb hpre K hK
      have za0 := (hb.cell (p := ⟨w.heap.size, 0, none⟩) kA).trans a0
      have za1 := (hb.cell (p := ⟨w.heap.size, 1, none⟩) kA).trans a1
      have za2 := (hb.cell (p := ⟨w.heap.size, 2, none⟩) kA).trans a2
      have za3 := (hb.cell (p := ⟨w.heap.size, 3, none⟩) kA).trans a3
      have za4 := (hb.cell (p := ⟨w.heap.size, 4, none⟩) kA).trans a4
      have zb0 := (hb.cell (p := ⟨w.heap.size + 1, 0, none⟩) kB).trans b0
      have zb1 := (hb.cell (p := ⟨w.heap.size + 1, 1, none⟩) kB).trans b1
      have zb2 := (hb.cell (p := ⟨w.heap.size + 1, 2, none⟩) kB).trans b2
      have zb3 := (hb.cell (p := ⟨w.heap.size + 1, 3, none⟩) kB).trans b3
      have zb4 := (hb.cell (p := ⟨w.heap.size + 1, 4, none⟩) kB).trans b4
      have zx0 := (hb.cell (p := ⟨p, 0, none⟩) kP).trans x0
      have zx1 := (hb.cell (p := ⟨p, 1, none⟩) kP).trans x1
      have zx2 := (hb.cell (p := ⟨p, 2, none⟩) kP).trans x2
      have zx3 := (hb.cell (p := ⟨p, 3, none⟩) kP).trans x3
      have zx4 := (hb.cell (p := ⟨p, 4, none⟩) kP).trans x4
      have zu0 := (hb.cell (p := ⟨q, 0, none⟩) kQ).trans u0
      have zu1 := (hb.cell (p := ⟨q, 1, none⟩) kQ).trans u1
      have zu2 := (hb.cell (p := ⟨q, 2, none⟩) kQ).trans u2
      have zu3 := (hb.cell (p := ⟨q, 3, none⟩) kQ).trans u3
      have zu4 := (hb.cell (p := ⟨q, 4, none⟩) kQ).trans u4
      simp [preds, Region.binds, RC.phi, RC.MP.val] at hpre
      simp only [frL, Act.put, List.setIfInBounds_toArray, List.set_cons_zero, List.set_cons_succ, Nat.zero_add, Nat.reduceAdd, hpre] at hK ⊢
      have HK := Lib.hid hK
      clear hK
      refine Held.mk ?_
      go_simp
      (with_reducible refine (CU.out _ hb).mono ?_)
      rintro e w1 ⟨rfl, hb1⟩
      dsimp only
      exact HK.out _ hb1
    -- 16: Op.pick (Operand.tmp 33) (Operand.tmp 36) (Operand.const (Value.bool false))
    apply RC.ls_val (fun _ _ _ _ _ _ => trivial)
    · intro x w' hb hpre K hK
      have za0 := (hb.cell (p := ⟨w.heap.size, 0, none⟩) kA).trans a0
      have za1 := (hb.cell (p := ⟨w.heap.size, 1, none⟩) kA).trans a1
      have za2 := (hb.cell (p := ⟨w.heap.size, 2, none⟩) kA).trans a2
      have za3 := (hb.cell (p := ⟨w.heap.size, 3, none⟩) kA).trans a3
      have za4 := (hb.cell (p := ⟨w.heap.size, 4, none⟩) kA).trans a4
      have zb0 := (hb.cell (p := ⟨w.heap.size + 1, 0, none⟩) kB).trans b0
      have zb1 := (hb.cell (p := ⟨w.heap.size + 1, 1, none⟩) kB).trans b1
      have zb2 := (hb.cell (p := ⟨w.heap.size + 1, 2, none⟩) kB).trans b2
      have zb3 := (hb.cell (p := ⟨w.heap.size + 1, 3, none⟩) kB).trans b3
      have zb4 := (hb.cell (p := ⟨w.heap.size + 1, 4, none⟩) kB).trans b4
      have zx0 := (hb.cell (p := ⟨p, 0, none⟩) kP).trans x0
      have zx1 := (hb.cell (p := ⟨p, 1, none⟩) kP).trans x1
      have zx2 := (hb.cell (p := ⟨p, 2, none⟩) kP).trans x2
      have zx3 := (hb.cell (p := ⟨p, 3, none⟩) kP).trans x3
      have zx4 := (hb.cell (p := ⟨p, 4, none⟩) kP).trans x4
      have zu0 := (hb.cell (p := ⟨q, 0, none⟩) kQ).trans u0
      have zu1 := (hb.cell (p := ⟨q, 1, none⟩) kQ).trans u1
      have zu2 := (hb.cell (p := ⟨q, 2, none⟩) kQ).trans u2
      have zu3 := (hb.cell (p := ⟨q, 3, none⟩) kQ).trans u3
      have zu4 := (hb.cell (p := ⟨q, 4, none⟩) kQ).trans u4
      simp [preds, Region.binds, RC.phi, RC.MP.val] at hpre
      simp only [frL, Act.put, List.setIfInBounds_toArray, List.set_cons_zero, List.set_cons_succ, Nat.zero_add, Nat.reduceAdd, hpre] at hK ⊢
      have HK := Lib.hid hK
      clear hK
      refine Held.mk ?_
      go_simp
      exact HK.out _ (Below.refl _ _)
    intro x w' hb hp hJ
    simp only [List.cons_append, List.nil_append, RC.phis, RC.MP.val, frL, Act.put, List.setIfInBounds_toArray, List.set_cons_zero, List.set_cons_succ, Nat.zero_add, Nat.reduceAdd] at hp ⊢
    obtain ⟨h0, h1, h2, h3, h4, h5, h6, h7, h8, h9, h10, h11, h12, h13, h14, h15, h16, -⟩ := hp
    simp only [h0, h1, h2, h3, h4, h5, h6, h7, h8, h9, h10, h11, h12, h13, h14, h15, h16]
    clear h0 h1 h2 h3 h4 h5 h6 h7 h8 h9 h10 h11 h12 h13 h14 h15 h16
    show wpList Tryd.prog _ _ [_] _ _
    go_wp2_with fail
    go_returns
    exact ⟨rfl, hw5.trans (hb.mono hw5.size)⟩
end Go.Proofs.YtgdbbocfiejlfaaDoor

/- CmpPairs' walk. -/
import Derived.Test.YtaoobajokhcimaaGreatDoorCpH
import Derived.Test.YtaoobajokhcimaaGreatDoorCpPa
set_option linter.unusedSimpArgs false
set_option linter.unusedVariables false
set_option linter.constructorNameAsVariable false
namespace Go.Proofs.YtaoobajokhcimaaGreatDoor
open Go.ChangeShapes Go.WideShapes Go.ChangeAt Go.RowKit Go.Joins

set_option maxRecDepth 100000 in
set_option maxHeartbeats 8000000 in
theorem pairs_main (op : Int) (k n s : Int) (t : ByteArray) (b : Bool) (k2 n2 s2 : Int) (t2 : ByteArray) (b2 : Bool) (ad : Option Addr) (cap : Nat) (xs : List At) (w : World) (hX : TRow w ad xs) (hnil : ad = none → cap = 0) (hl : xs.length ≤ 1048576) (ra rc rx : Bool)
    (CA0 : ∀ w', Below w.heap.size w w' → Calls Tryz.prog 29 #[] w' fun e w'' => e = .returned (.bool true) ∧ Below w'.heap.size w' w'')
    (RA0 : ∀ w', Calls Tryz.prog 13 #[.agg #[.int .i64 k, .int .i64 n, .int .i64 s, .string t, .bool b]] w' fun e w'' => e = .returned (.bool ra) ∧ Below w'.heap.size w' w'')
    (RC0 : ∀ w', Calls Tryz.prog 13 #[.agg #[.int .i64 k2, .int .i64 n2, .int .i64 s2, .string t2, .bool b2]] w' fun e w'' => e = .returned (.bool rc) ∧ Below w'.heap.size w' w'')
    (RX0 : ∀ w', Below w.heap.size w w' → Calls Tryz.prog 30 #[.slice ad xs.length cap] w' fun e w'' => e = .returned (.bool rx) ∧ Below w'.heap.size w' w'')
    (V0 : ra = true → rc = true → ∀ w', Calls Tryz.prog 36 #[.int .i64 op, .agg #[.int .i64 k, .int .i64 n, .int .i64 s, .string t, .bool b], .agg #[.int .i64 k2, .int .i64 n2, .int .i64 s2, .string t2, .bool b2]] w' fun e w'' => e = .returned (.tuple #[.bool (valueF op ⟨k, n, s, t, b⟩ ⟨k2, n2, s2, t2, b2⟩).1, .int .i64 (valueF op ⟨k, n, s, t, b⟩ ⟨k2, n2, s2, t2, b2⟩).2]) ∧ Below w'.heap.size w' w'')
    (G0 : ra = true → rc = true → rx = true → ∀ (O : Int) (ys zs : List At), ys.length ≤ 1000000 → zs.length ≤ 1000000 → (∀ y ∈ ys, y = ⟨k, n, s, t, b⟩ ∨ y ∈ xs) → (∀ y ∈ zs, y = ⟨k2, n2, s2, t2, b2⟩ ∨ y ∈ xs) → ∀ a1 a2 c1 c2 w', Below w.heap.size w w' → TRow w' a1 ys → TRow w' a2 zs → Calls Tryz.prog 31 #[.int .i64 O, .slice a1 ys.length c1, .slice a2 zs.length c2] w' fun e w'' => e = .returned (.tuple #[.bool (generalF O ys zs).1, .int .i64 (generalF O ys zs).2]) ∧ Below w'.heap.size w' w'') :
    Calls Tryz.prog 10 #[.int .i64 op, .agg #[.int .i64 k, .int .i64 n, .int .i64 s, .string t, .bool b, .int .i64 k2, .int .i64 n2, .int .i64 s2, .string t2, .bool b2], .slice ad xs.length cap] w fun e w' => e = .returned (.bool true) ∧ Below w.heap.size w w' := by
  have CA := Lib.hid CA0
  have RA := Lib.hid RA0
  have RQ := Lib.hid RC0
  have RX := Lib.hid RX0
  have V := Lib.hid V0
  have G := Lib.hid G0
  have HX := Lib.hid hX
  clear CA0 RA0 RC0 RX0 V0 G0 hX
  go_enter Tryz.func10, Tryz.ntmps10
  go_wp2_with fail
  obtain ⟨FA, hFA⟩ : ∃ FA : Array Value, FA = #[.int .i64 k, .int .i64 n, .int .i64 s, .string t, .bool b] := ⟨_, rfl⟩
  obtain ⟨FC, hFC⟩ : ∃ FC : Array Value, FC = #[.int .i64 k2, .int .i64 n2, .int .i64 s2, .string t2, .bool b2] := ⟨_, rfl⟩
  have HFA := Lib.hid hFA
  have HFC := Lib.hid hFC
  clear hFA hFC
  have hw0 : Below w.heap.size w (w.alloc (.cells #[.int .i64 k, .int .i64 n, .int .i64 s, .string t, .bool b, .int .i64 k2, .int .i64 n2, .int .i64 s2, .string t2, .bool b2] 59)) := (Below.refl _ _).alloc (Nat.le_refl _) _
  have B0 : Blk (w.alloc (.cells #[.int .i64 k, .int .i64 n, .int .i64 s, .string t, .bool b, .int .i64 k2, .int .i64 n2, .int .i64 s2, .string t2, .bool b2] 59)) w.heap.size #[.int .i64 k, .int .i64 n, .int .i64 s, .string t, .bool b, .int .i64 k2, .int .i64 n2, .int .i64 s2, .string t2, .bool b2] 59 := Blk.here rfl rfl
  generalize w.alloc (.cells #[.int .i64 k, .int .i64 n, .int .i64 s, .string t, .bool b, .int .i64 k2, .int .i64 n2, .int .i64 s2, .string t2, .bool b2] 59) = W at *
  have kB0 := B0.lt
  have u0 : W.cell? ⟨w.heap.size, 0, none⟩ = _ := B0.cell 0
  have u1 : W.cell? ⟨w.heap.size, 1, none⟩ = _ := B0.cell 1
  have u2 : W.cell? ⟨w.heap.size, 2, none⟩ = _ := B0.cell 2
  have u3 : W.cell? ⟨w.heap.size, 3, none⟩ = _ := B0.cell 3
  have u4 : W.cell? ⟨w.heap.size, 4, none⟩ = _ := B0.cell 4
  have u5 : W.cell? ⟨w.heap.size, 5, none⟩ = _ := B0.cell 5
  have u6 : W.cell? ⟨w.heap.size, 6, none⟩ = _ := B0.cell 6
  have u7 : W.cell? ⟨w.heap.size, 7, none⟩ = _ := B0.cell 7
  have u8 : W.cell? ⟨w.heap.size, 8, none⟩ = _ := B0.cell 8
  have u9 : W.cell? ⟨w.heap.size, 9, none⟩ = _ := B0.cell 9
  simp only [List.getElem?_toArray, List.getElem?_cons_zero, List.getElem?_cons_succ] at u0 u1 u2 u3 u4 u5 u6 u7 u8 u9
  refine RC.region_steps (R := (Below W.heap.size)) 8 [some 18, some 19, some 20, some 21, some 7, some 8, none, none] (JP W.heap.size 24 FA FC) (fun a b c h1 h2 => h1.trans h2) (fun w9 => (Below.refl _ _).drew) (fun w9 => ⟨fun q hq => by simp [orig, undef] at hq, fun q hq => by simp [orig, undef] at hq, fun q p hq => by simp [orig, undef] at hq, fun q hq => by simp [orig, undef] at hq, fun q hq => by simp [orig, undef] at hq⟩) (by kernel_rfl) (by kernel_rfl) ?_
  -- 0: Op.indexAddr 59 (Operand.tmp 4) (Operand.const (Value.int IntKind.i64 0))
  refine RC.ls_gen (.val (.pointer (some ⟨w.heap.size, 0, none⟩))) ?_ ?_
  · intro x w' hb hj hpre K hK
    have hc := (bcell hb).1
    clear hpre
    simp only [frL, Act.put, List.setIfInBounds_toArray, List.set_cons_zero, List.set_cons_succ, Nat.zero_add, Nat.reduceAdd] at hK ⊢
    have HK := Lib.hid hK
    clear hK
    refine Held.mk ?_
    go_simp
    exact HK.out _ _ rfl (JP.val (by omega) _ hj) (Below.refl _ _)
  -- 1: Op.load 24 (Operand.tmp 18)
  refine RC.ls_gen (.val (.agg #[.int .i64 k, .int .i64 n, .int .i64 s, .string t, .bool b])) ?_ ?_
  · intro x w' hb hj hpre K hK
    have hc := (bcell hb).1
    have p0 := hpre.1 rfl
    clear hpre
    simp [RC.phi, RC.MP.val] at p0
    simp only [frL, Act.put, List.setIfInBounds_toArray, List.set_cons_zero, List.set_cons_succ, Nat.zero_add, Nat.reduceAdd, p0] at hK ⊢
    have HK := Lib.hid hK
    clear hK
    refine Held.mk ?_
    go_simp
    exact HK.out _ _ rfl (JP.val (by omega) _ hj) (Below.refl _ _)
  -- 2: Op.indexAddr 59 (Operand.tmp 4) (Operand.const (Value.int IntKind.i64 1))
  refine RC.ls_gen (.val (.pointer (some ⟨w.heap.size, 5, none⟩))) ?_ ?_
  · intro x w' hb hj hpre K hK
    have hc := (bcell hb).1
    clear hpre
    simp only [frL, Act.put, List.setIfInBounds_toArray, List.set_cons_zero, List.set_cons_succ, Nat.zero_add, Nat.reduceAdd] at hK ⊢
    have HK := Lib.hid hK
    clear hK
    refine Held.mk ?_
    go_simp
    exact HK.out _ _ rfl (JP.val (by omega) _ hj) (Below.refl _ _)
  -- 3: Op.load 24 (Operand.tmp 20)
  refine RC.ls_gen (.val (.agg #[.int .i64 k2, .int .i64 n2, .int .i64 s2, .string t2, .bool b2])) ?_ ?_
  · intro x w' hb hj hpre K hK
    have hc := (bcell hb).1
    have p0 := hpre.1 rfl
    clear hpre
    simp [RC.phi, RC.MP.val] at p0
    simp only [frL, Act.put, List.setIfInBounds_toArray, List.set_cons_zero, List.set_cons_succ, Nat.zero_add, Nat.reduceAdd, p0] at hK ⊢
    have HK := Lib.hid hK
    clear hK
    refine Held.mk ?_
    go_simp
    exact HK.out _ _ rfl (JP.val (by omega) _ hj) (Below.refl _ _)
  -- 4: Op.alloc 24
  refine RC.ls_genO (MPpt _) ?_ ?_
  · intro x w' hb hj hpre ho K hK
    have ho6 : ∀ q, x 6 ≠ .pointer (some ⟨q, 0, none⟩) := fun q hq => by rw [ho 6 (by omega) (by kernel_rfl)] at hq; simp [orig, undef] at hq
    clear ho hpre
    simp only [frL, Act.put, List.setIfInBounds_toArray, List.set_cons_zero, List.set_cons_succ, Nat.zero_add, Nat.reduceAdd] at hK ⊢
    have HK := Lib.hid hK
    clear hK
    refine Held.mk ?_
    go_simp
    exact HK.out _ _ ⟨_, rfl⟩ (JP.makeA ho6 hb.size _ _ _ _ _ hj) ((Below.refl _ _).alloc hb.size _)
  -- 5: Op.alloc 24
  refine RC.ls_genO (MPpt _) ?_ ?_
  · intro x w' hb hj hpre ho K hK
    have ho7 : ∀ q, x 7 ≠ .pointer (some ⟨q, 0, none⟩) := fun q hq => by rw [ho 7 (by omega) (by kernel_rfl)] at hq; simp [orig, undef] at hq
    clear ho hpre
    simp only [frL, Act.put, List.setIfInBounds_toArray, List.set_cons_zero, List.set_cons_succ, Nat.zero_add, Nat.reduceAdd] at hK ⊢
    have HK := Lib.hid hK
    clear hK
    refine Held.mk ?_
    go_simp
    exact HK.out _ _ ⟨_, rfl⟩ (JP.makeB ho7 hb.size _ _ _ _ _ hj) ((Below.refl _ _).alloc hb.size _)
  -- 6: Op.store 24 (Operand.tmp 7) (Operand.tmp 19)
  refine RC.ls_gen (MPpt _) ?_ ?_
  · intro x w' hb hj hpre K hK
    have p0 := hpre.1 rfl
    have p1 := hpre.2.1 rfl
    clear hpre
    simp [RC.phi, MPpt] at p0
    simp [RC.phi, RC.MP.val] at p1
    obtain ⟨q9, hq⟩ := p0
    obtain ⟨hBq, y1, y2, y3, y4, y5, hy⟩ := hj.a q9 hq
    obtain ⟨⟨d0, d1', d2', d3', d4'⟩, e0', e1', e2', e3', e4'⟩ := hy.five
    have hp := JP.putA HFA.out hq hy hj
    simp only [frL, Act.put, List.setIfInBounds_toArray, List.set_cons_zero, List.set_cons_succ, Nat.zero_add, Nat.reduceAdd, hq, p1] at hK ⊢
    have HK := Lib.hid hK
    clear hK
    refine Held.mk ?_
    go_simp
    exact HK.out (.pointer (some ⟨q9, 0, none⟩)) _ ⟨q9, rfl⟩ hp (put5b _ _ _ _ _ hBq)
  -- 7: Op.store 24 (Operand.tmp 8) (Operand.tmp 21)
  refine RC.ls_gen (MPpt _) ?_ ?_
  · intro x w' hb hj hpre K hK
    have p0 := hpre.1 rfl
    have p1 := hpre.2.1 rfl
    clear hpre
    simp [RC.phi, MPpt] at p0
    simp [RC.phi, RC.MP.val] at p1
    obtain ⟨q9, hq⟩ := p0
    obtain ⟨hBq, y1, y2, y3, y4, y5, hy⟩ := hj.b q9 hq
    obtain ⟨⟨d0, d1', d2', d3', d4'⟩, e0', e1', e2', e3', e4'⟩ := hy.five
    have hp := JP.putB HFC.out hq hy hj
    simp only [frL, Act.put, List.setIfInBounds_toArray, List.set_cons_zero, List.set_cons_succ, Nat.zero_add, Nat.reduceAdd, hq, p1] at hK ⊢
    have HK := Lib.hid hK
    clear hK
    refine Held.mk ?_
    go_simp
    exact HK.out (.pointer (some ⟨q9, 0, none⟩)) _ ⟨q9, rfl⟩ hp (put5b _ _ _ _ _ hBq)
  intro x w' hb hp hJ
  simp only [List.cons_append, List.nil_append, RC.phis, RC.MP.val, frL, Act.put, List.setIfInBounds_toArray, List.set_cons_zero, List.set_cons_succ, Nat.zero_add, Nat.reduceAdd] at hp ⊢
  obtain ⟨h0, h1, h2, h3, h4, h5, h6, h7, -⟩ := hp
  obtain ⟨qa, hqa⟩ : ∃ q, x 6 = .pointer (some ⟨q, 0, none⟩) := h6
  obtain ⟨qc, hqc⟩ : ∃ q, x 7 = .pointer (some ⟨q, 0, none⟩) := h7
  obtain ⟨ea, BA⟩ := hJ.f qa hqa
  obtain ⟨ec, BC⟩ := hJ.g qc hqc
  rw [HFA.out] at BA
  rw [HFC.out] at BC
  obtain ⟨W1, hW1⟩ : ∃ W1, W1 = w' := ⟨_, rfl⟩
  subst hW1
  have e0 : x 0 = .pointer (some ⟨w.heap.size, 0, none⟩) := h0
  have e1 : x 1 = .agg #[.int .i64 k, .int .i64 n, .int .i64 s, .string t, .bool b] := h1
  have e2 : x 2 = .pointer (some ⟨w.heap.size, 5, none⟩) := h2
  have e3 : x 3 = .agg #[.int .i64 k2, .int .i64 n2, .int .i64 s2, .string t2, .bool b2] := h3
  simp only [ea, ec, e0, e1, e2, e3]
  have hw1 := hw0.trans (hb.mono hw0.size)
  clear e0 e1 e2 e3 ea ec hqa hqc h0 h1 h2 h3 h4 h5 hJ hb HFA HFC x B0 kB0 u0 u1 u2 u3 u4 u5 u6 u7 u8 u9 hw0
  show wpList Tryz.prog _ _ [] _ _
  have kA := BA.lt
  have kC := BC.lt
  obtain ⟨⟨x0, x1, x2, x3, x4⟩, -⟩ := BA.five
  obtain ⟨⟨y0, y1, y2, y3, y4⟩, -⟩ := BC.five
  go_wp2_with fail
  with_reducible refine (CA.out _ hw1).mono ?_
  rintro e w2 ⟨rfl, hb⟩
  have hw2 : Below w.heap.size w w2 := Below.trans hw1 (hb.mono (by have := hw1.size; simp <;> omega))
  replace BA := BA.below hb BA.lt
  replace BC := BC.below hb BC.lt
  clear hb kA kC x0 x1 x2 x3 x4 y0 y1 y2 y3 y4
  have kA := BA.lt
  have kC := BC.lt
  obtain ⟨⟨x0, x1, x2, x3, x4⟩, -⟩ := BA.five
  obtain ⟨⟨y0, y1, y2, y3, y4⟩, -⟩ := BC.five
  go_wp2_with fail
  with_reducible refine (RA.out _).mono ?_
  rintro e w3 ⟨rfl, hb⟩
  have hw3 : Below w.heap.size w w3 := Below.trans hw2 (hb.mono (by have := hw2.size; simp <;> omega))
  replace BA := BA.below hb BA.lt
  replace BC := BC.below hb BC.lt
  clear hb kA kC x0 x1 x2 x3 x4 y0 y1 y2 y3 y4
  have kA := BA.lt
  have kC := BC.lt
  obtain ⟨⟨x0, x1, x2, x3, x4⟩, -⟩ := BA.five
  obtain ⟨⟨y0, y1, y2, y3, y4⟩, -⟩ := BC.five
  cases ra
  ·
    go_wp2_with fail
    with_reducible refine (CA.out _ hw3).mono ?_
    rintro e wz ⟨rfl, hb⟩
    have hwz : Below w.heap.size w wz := Below.trans hw3 (hb.mono (by have := hw3.size; simp <;> omega))
    clear hb kA kC x0 x1 x2 x3 x4 y0 y1 y2 y3 y4
    go_wp2_with fail
    exact bodyPost_ret (v := .bool true) (by simp [results, Tryz.results10, go_sem]) rfl ⟨rfl, hwz⟩
  ·
    go_wp2_with fail
    with_reducible refine (RQ.out _).mono ?_
    rintro e w4 ⟨rfl, hb⟩
    have hw4 : Below w.heap.size w w4 := Below.trans hw3 (hb.mono (by have := hw3.size; simp <;> omega))
    replace BA := BA.below hb BA.lt
    replace BC := BC.below hb BC.lt
    clear hb kA kC x0 x1 x2 x3 x4 y0 y1 y2 y3 y4
    have kA := BA.lt
    have kC := BC.lt
    obtain ⟨⟨x0, x1, x2, x3, x4⟩, -⟩ := BA.five
    obtain ⟨⟨y0, y1, y2, y3, y4⟩, -⟩ := BC.five
    cases rc
    ·
      go_wp2_with fail
      with_reducible refine (CA.out _ hw4).mono ?_
      rintro e wz ⟨rfl, hb⟩
      have hwz : Below w.heap.size w wz := Below.trans hw4 (hb.mono (by have := hw4.size; simp <;> omega))
      clear hb kA kC x0 x1 x2 x3 x4 y0 y1 y2 y3 y4
      go_wp2_with fail
      exact bodyPost_ret (v := .bool true) (by simp [results, Tryz.results10, go_sem]) rfl ⟨rfl, hwz⟩
    ·
      go_wp2_with fail
      with_reducible refine (RX.out _ hw4).mono ?_
      rintro e w5 ⟨rfl, hb⟩
      have hw5 : Below w.heap.size w w5 := Below.trans hw4 (hb.mono (by have := hw4.size; simp <;> omega))
      replace BA := BA.below hb BA.lt
      replace BC := BC.below hb BC.lt
      clear hb kA kC x0 x1 x2 x3 x4 y0 y1 y2 y3 y4
      have kA := BA.lt
      have kC := BC.lt
      obtain ⟨⟨x0, x1, x2, x3, x4⟩, -⟩ := BA.five
      obtain ⟨⟨y0, y1, y2, y3, y4⟩, -⟩ := BC.five
      cases rx
      ·
        go_wp2_with fail
        with_reducible refine (CA.out _ hw5).mono ?_
        rintro e wz ⟨rfl, hb⟩
        have hwz : Below w.heap.size w wz := Below.trans hw5 (hb.mono (by have := hw5.size; simp <;> omega))
        clear hb kA kC x0 x1 x2 x3 x4 y0 y1 y2 y3 y4
        go_wp2_with fail
        exact bodyPost_ret (v := .bool true) (by simp [results, Tryz.results10, go_sem]) rfl ⟨rfl, hwz⟩
      · cases l1 : decide ((100 : Int) < (xs.length : Int))
        · cases o1 : decide (op < 13)
          · cases o2 : decide (18 < op)
            · have hop : (decide (op < 13) || decide (18 < op)) = false := by rw [o1, o2]; rfl
              have m1 : xs.length ≤ 100 := by simp at l1; omega
              have p1 : IntKind.i64.wrap (op - 13) = op - 13 := IntWalk.i64_in _ (by simp at o1 o2; omega)
              have p2 : IntKind.i64.wrap (op - 13 + 19) = op - 13 + 19 := IntWalk.i64_in _ (by simp at o1 o2; omega)
              obtain ⟨gv, gr, hg⟩ : ∃ gv gr, generalF (op - 13 + 19) [⟨k, n, s, t, b⟩] [⟨k2, n2, s2, t2, b2⟩] = (gv, gr) := ⟨_, _, rfl⟩
              have hV := V.out (by simp) (by simp)
              have hpp := pair_plain op ⟨k, n, s, t, b⟩ ⟨k2, n2, s2, t2, b2⟩
              have hpm := pair_more op ⟨k, n, s, t, b⟩ ⟨k2, n2, s2, t2, b2⟩ xs hop
              have hG := G.out (by simp) (by simp) (by simp) (op - 13 + 19)
              have hC1 : ∀ (q1 q2 : Nat) (w' : World), Below w.heap.size w w' → Blk w' q1 #[.int .i64 k, .int .i64 n, .int .i64 s, .string t, .bool b] 24 → Blk w' q2 #[.int .i64 k2, .int .i64 n2, .int .i64 s2, .string t2, .bool b2] 24 → Calls Tryz.prog 31 #[.int .i64 (op - 13 + 19), .slice (some ⟨q1, 0, none⟩) 1 1, .slice (some ⟨q2, 0, none⟩) 1 1] w' fun e w'' => e = .returned (.tuple #[.bool gv, .int .i64 gr]) ∧ Below w'.heap.size w' w'' := fun q1 q2 w' hb h1 h2 => by
                have h := hG [⟨k, n, s, t, b⟩] [⟨k2, n2, s2, t2, b2⟩] (by simp) (by simp) (fun y hy => .inl (by simpa using hy)) (fun y hy => .inl (by simpa using hy)) (some ⟨q1, 0, none⟩) (some ⟨q2, 0, none⟩) 1 1 w' hb (TRow.one h1) (TRow.one h2)
                rw [hg] at h
                exact h
              have hC2 : (gv, gr) = (true, 0) → ∀ a1 c1 (q2 : Nat) (w' : World), Below w.heap.size w w' → TRow w' a1 (⟨k, n, s, t, b⟩ :: xs) → Blk w' q2 #[.int .i64 k2, .int .i64 n2, .int .i64 s2, .string t2, .bool b2] 24 → Calls Tryz.prog 31 #[.int .i64 (op - 13 + 19), .slice a1 (xs.length + 1) c1, .slice (some ⟨q2, 0, none⟩) 1 1] w' fun e w'' => e = .returned (.tuple #[.bool true, .int .i64 0]) ∧ Below w'.heap.size w' w'' := fun e a1 c1 q2 w' hb h1 h2 => by
                have h := hG (⟨k, n, s, t, b⟩ :: xs) [⟨k2, n2, s2, t2, b2⟩] (by simp; omega) (by simp) (fun y hy => by simpa using hy) (fun y hy => .inl (by simpa using hy)) a1 (some ⟨q2, 0, none⟩) c1 1 w' hb h1 (TRow.one h2)
                rw [(hpm (hg.trans e)).1] at h
                exact h
              have hC3 : (gv, gr) = (true, 0) → ∀ (q1 : Nat) a2 c2 (w' : World), Below w.heap.size w w' → Blk w' q1 #[.int .i64 k, .int .i64 n, .int .i64 s, .string t, .bool b] 24 → TRow w' a2 (⟨k2, n2, s2, t2, b2⟩ :: xs) → Calls Tryz.prog 31 #[.int .i64 (op - 13 + 19), .slice (some ⟨q1, 0, none⟩) 1 1, .slice a2 (xs.length + 1) c2] w' fun e w'' => e = .returned (.tuple #[.bool true, .int .i64 0]) ∧ Below w'.heap.size w' w'' := fun e q1 a2 c2 w' hb h1 h2 => by
                have h := hG [⟨k, n, s, t, b⟩] (⟨k2, n2, s2, t2, b2⟩ :: xs) (by simp) (by simp; omega) (fun y hy => .inl (by simpa using hy)) (fun y hy => by simpa using hy) (some ⟨q1, 0, none⟩) a2 1 c2 w' hb (TRow.one h1) h2
                rw [(hpm (hg.trans e)).2] at h
                exact h
              have hpp' := fun h1 h2 => (hpp h1 h2 hop).symm.trans hg
              have C1 := Lib.hid hC1
              have C2 := Lib.hid hC2
              have C3 := Lib.hid hC3
              have HP := Lib.hid hpp'
              have CV := Lib.hid hV
              clear hG hC1 hC2 hC3 hpp' hpp hpm hV hg G V hop
              obtain ⟨O, hO⟩ : ∃ O, op - 13 + 19 = O := ⟨_, rfl⟩
              rw [hO] at C1 C2 C3 p2
              clear CA RA RQ RX l1
              go_wp2_with fail
              with_reducible refine (C1.out _ _ _ ((hw5.alloc hw5.size _).alloc (hw5.alloc hw5.size _).size _) ((Blk.here rfl rfl).alloc _) (Blk.here rfl (by simp))).mono ?_
              rintro e w6 ⟨rfl, hb⟩
              have hw6 : Below w.heap.size w w6 := Below.trans ((hw5.alloc hw5.size _).alloc (hw5.alloc hw5.size _).size _) (hb.mono (by have := hw5.size; simp <;> omega))
              replace BA := ((BA.alloc _).alloc _).below hb ((BA.alloc _).alloc _).lt
              replace BC := ((BC.alloc _).alloc _).below hb ((BC.alloc _).alloc _).lt
              clear hb kA kC x0 x1 x2 x3 x4 y0 y1 y2 y3 y4
              have kA := BA.lt
              have kC := BC.lt
              obtain ⟨⟨x0, x1, x2, x3, x4⟩, -⟩ := BA.five
              obtain ⟨⟨y0, y1, y2, y3, y4⟩, -⟩ := BC.five
              cases ek : (k != 5)
              ·
                cases g1 : (gr != 0)
                · obtain rfl : gr = 0 := by simpa using g1
                  cases gv
                  ·
                    go_wp2_with fail
                    exact bodyPost_ret (v := .bool true) (by simp [results, Tryz.results10, go_sem]) rfl ⟨rfl, hw6⟩
                  ·
                    go_wp2_with fail
                    refine region_steps 12 [some 95, some 96, some 97, some 98, some 99, some 100, some 101, some 102, some 94, some 103, some 104, some 14] (by kernel_rfl) (by kernel_rfl) ?_
                    -- 0: Op.move (Operand.tmp 9)
                    apply ls_val
                    · intro x w' hb hpre K hK
                      have hc := (bcell hb).1
                      clear hpre
                      simp only [frL, Act.put, List.setIfInBounds_toArray, List.set_cons_zero, List.set_cons_succ, Nat.zero_add, Nat.reduceAdd] at hK ⊢
                      have HK := Lib.hid hK
                      clear hK
                      refine Held.mk ?_
                      go_simp
                      exact HK.out _ (Below.refl _ _)
                    -- 1: Op.load 24 (Operand.tmp 7)
                    apply ls_val
                    · intro x w' hb hpre K hK
                      have hc := (bcell hb).1
                      clear hpre
                      simp only [frL, Act.put, List.setIfInBounds_toArray, List.set_cons_zero, List.set_cons_succ, Nat.zero_add, Nat.reduceAdd] at hK ⊢
                      have HK := Lib.hid hK
                      clear hK
                      refine Held.mk ?_
                      go_simp
                      exact HK.out _ (Below.refl _ _)
                    -- 2: Op.buildSlice 46 1 #[(0, Operand.tmp 96)]
                    refine ls_gen (.row w6.heap.size 1 #[.int .i64 k, .int .i64 n, .int .i64 s, .string t, .bool b] 24) ?_ ?_
                    · intro x w' hb hpre K hK
                      have p0 := hpre.1 rfl
                      clear hpre
                      simp [phi, MP.val] at p0
                      simp only [frL, Act.put, List.setIfInBounds_toArray, List.set_cons_zero, List.set_cons_succ, Nat.zero_add, Nat.reduceAdd, p0] at hK ⊢
                      have HK := Lib.hid hK
                      clear hK
                      refine Held.mk ?_
                      go_simp
                      exact HK.out _ _ ⟨_, rfl, hb.size, Blk.new _ _ _⟩ ((Below.refl _ _).alloc (Nat.le_refl _) _)
                    -- 3: Op.move (Operand.tmp 2)
                    apply ls_val
                    · intro x w' hb hpre K hK
                      have hc := (bcell hb).1
                      clear hpre
                      simp only [frL, Act.put, List.setIfInBounds_toArray, List.set_cons_zero, List.set_cons_succ, Nat.zero_add, Nat.reduceAdd] at hK ⊢
                      have HK := Lib.hid hK
                      clear hK
                      refine Held.mk ?_
                      go_simp
                      exact HK.out _ (Below.refl _ _)
                    -- 4: Op.call { callee := Callee.builtin Builtin.append, args := #[Operand.tmp 97, Operand.tmp 9
                    refine ls_gen (MPtr ((⟨k, n, s, t, b⟩ : At) :: xs)) ?_ ?_
                    · intro x w' hb hpre K hK
                      have p0 := hpre.1 rfl
                      have p1 := hpre.2.1 rfl
                      clear hpre
                      simp [phi, MP.row] at p0
                      simp [phi, MP.val] at p1
                      obtain ⟨q9, hq9, -, hB9⟩ := p0
                      refine Held.mk (step_append_more ?_ (.tmp 97) (.tmp 98) ?_ q9 ⟨k, n, s, t, b⟩ ?_ hB9 ad cap xs ?_ (HX.out.on (hw6.trans (hb.mono hw6.size))) hnil (by omega) ?_)
                      · rfl
                      · rfl
                      · simp only [frL, Act.put, List.setIfInBounds_toArray, List.set_cons_zero, List.set_cons_succ, Nat.zero_add, Nat.reduceAdd]
                        simp [Act.eval, hq9]
                      · simp only [frL, Act.put, List.setIfInBounds_toArray, List.set_cons_zero, List.set_cons_succ, Nat.zero_add, Nat.reduceAdd]
                        simp [Act.eval, p1]
                      · exact fun v w'' h1 h2 => hK v w'' h1 h2
                    -- 5: Op.load 24 (Operand.tmp 8)
                    apply ls_val
                    · intro x w' hb hpre K hK
                      have hc := (bcell hb).1
                      clear hpre
                      simp only [frL, Act.put, List.setIfInBounds_toArray, List.set_cons_zero, List.set_cons_succ, Nat.zero_add, Nat.reduceAdd] at hK ⊢
                      have HK := Lib.hid hK
                      clear hK
                      refine Held.mk ?_
                      go_simp
                      exact HK.out _ (Below.refl _ _)
                    -- 6: Op.buildSlice 46 1 #[(0, Operand.tmp 100)]
                    refine ls_gen (.row w6.heap.size 1 #[.int .i64 k2, .int .i64 n2, .int .i64 s2, .string t2, .bool b2] 24) ?_ ?_
                    · intro x w' hb hpre K hK
                      have p0 := hpre.1 rfl
                      clear hpre
                      simp [phi, MP.val] at p0
                      simp only [frL, Act.put, List.setIfInBounds_toArray, List.set_cons_zero, List.set_cons_succ, Nat.zero_add, Nat.reduceAdd, p0] at hK ⊢
                      have HK := Lib.hid hK
                      clear hK
                      refine Held.mk ?_
                      go_simp
                      exact HK.out _ _ ⟨_, rfl, hb.size, Blk.new _ _ _⟩ ((Below.refl _ _).alloc (Nat.le_refl _) _)
                    -- 7: Op.call { callee := Callee.value (Operand.func 31), args := #[Operand.tmp 95, Operand.tmp 
                    refine ls_val (v := .tuple #[.bool true, .int .i64 0]) ?_ ?_
                    · intro x w' hb hpre K hK
                      have p0 := hpre.1 rfl
                      have p1 := hpre.2.1 rfl
                      have p2 := hpre.2.2.1 rfl
                      clear hpre
                      simp [phi, MP.val] at p0
                      simp [phi, MP.row] at p2
                      obtain ⟨a4, c4, h4, hT4⟩ : ∃ a c, x 4 = .slice a (xs.length + 1) c ∧ TRow w' a (⟨k, n, s, t, b⟩ :: xs) := p1
                      obtain ⟨q6, h6, -, hB6⟩ := p2
                      simp only [frL, Act.put, List.setIfInBounds_toArray, List.set_cons_zero, List.set_cons_succ, Nat.zero_add, Nat.reduceAdd, p0, h4, h6] at hK ⊢
                      have HK := Lib.hid hK
                      clear hK
                      refine Held.mk ?_
                      go_simp
                      with_reducible refine (C2.out (by simp) a4 c4 q6 w' (hw6.trans (hb.mono hw6.size)) hT4 hB6).mono ?_
                      rintro e w1 ⟨rfl, hb1⟩
                      dsimp only
                      exact HK.out _ hb1
                    -- 8: Op.move (Operand.tmp 102)
                    refine ls_val (v := .tuple #[.bool true, .int .i64 0]) ?_ ?_
                    · intro x w' hb hpre K hK
                      have p0 := hpre.1 rfl
                      clear hpre
                      simp [phi, MP.val] at p0
                      simp only [frL, Act.put, List.setIfInBounds_toArray, List.set_cons_zero, List.set_cons_succ, Nat.zero_add, Nat.reduceAdd, p0] at hK ⊢
                      have HK := Lib.hid hK
                      clear hK
                      refine Held.mk ?_
                      go_simp
                      exact HK.out _ (Below.refl _ _)
                    -- 9: Op.extract (Operand.tmp 94) 0
                    refine ls_val (v := .bool true) ?_ ?_
                    · intro x w' hb hpre K hK
                      have p0 := hpre.1 rfl
                      clear hpre
                      simp [phi, MP.val] at p0
                      simp only [frL, Act.put, List.setIfInBounds_toArray, List.set_cons_zero, List.set_cons_succ, Nat.zero_add, Nat.reduceAdd, p0] at hK ⊢
                      have HK := Lib.hid hK
                      clear hK
                      refine Held.mk ?_
                      go_simp
                      exact HK.out _ (Below.refl _ _)
                    -- 10: Op.extract (Operand.tmp 94) 1
                    refine ls_val (v := .int .i64 0) ?_ ?_
                    · intro x w' hb hpre K hK
                      have p0 := hpre.1 rfl
                      clear hpre
                      simp [phi, MP.val] at p0
                      simp only [frL, Act.put, List.setIfInBounds_toArray, List.set_cons_zero, List.set_cons_succ, Nat.zero_add, Nat.reduceAdd, p0] at hK ⊢
                      have HK := Lib.hid hK
                      clear hK
                      refine Held.mk ?_
                      go_simp
                      exact HK.out _ (Below.refl _ _)
                    -- 11: Op.assign (Operand.tmp 103)
                    refine ls_val (v := .bool true) ?_ ?_
                    · intro x w' hb hpre K hK
                      have p0 := hpre.1 rfl
                      clear hpre
                      simp [phi, MP.val] at p0
                      simp only [frL, Act.put, List.setIfInBounds_toArray, List.set_cons_zero, List.set_cons_succ, Nat.zero_add, Nat.reduceAdd, p0] at hK ⊢
                      have HK := Lib.hid hK
                      clear hK
                      refine Held.mk ?_
                      go_simp
                      exact HK.out _ (Below.refl _ _)
                    intro x w' hb hp
                    simp only [List.cons_append, List.nil_append, phis, MP.val, MP.box, MP.row, frL, Act.put, List.setIfInBounds_toArray, List.set_cons_zero, List.set_cons_succ, Nat.zero_add, Nat.reduceAdd] at hp ⊢
                    obtain ⟨h0, h1, h2, h3, h4, h5, h6, h7, h8, h9, h10, h11, -⟩ := hp
                    simp only [h0, h1, h3, h5, h7, h8, h9, h10, h11]
                    clear h0 h1 h3 h5 h7 h8 h9 h10 h11
                    obtain ⟨q92, e92, -, -⟩ : ∃ q, x 2 = .slice (some ⟨q, 0, none⟩) 1 1 ∧ w6.heap.size ≤ q ∧ Blk w' q #[.int .i64 k, .int .i64 n, .int .i64 s, .string t, .bool b] 24 := h2
                    obtain ⟨a94, c94, e94, -⟩ : ∃ a c, x 4 = .slice a (xs.length + 1) c ∧ TRow w' a (⟨k, n, s, t, b⟩ :: xs) := h4
                    obtain ⟨q96, e96, -, -⟩ : ∃ q, x 6 = .slice (some ⟨q, 0, none⟩) 1 1 ∧ w6.heap.size ≤ q ∧ Blk w' q #[.int .i64 k2, .int .i64 n2, .int .i64 s2, .string t2, .bool b2] 24 := h6
                    simp only [e92, e94, e96]
                    obtain ⟨W8, hW8⟩ : ∃ W8, W8 = w' := ⟨_, rfl⟩
                    subst hW8
                    have hw8 := hw6.trans (hb.mono hw6.size)
                    clear e92 e94 e96 x
                    replace BA := BA.below hb BA.lt
                    replace BC := BC.below hb BC.lt
                    clear hb kA kC x0 x1 x2 x3 x4 y0 y1 y2 y3 y4
                    have kA := BA.lt
                    have kC := BC.lt
                    obtain ⟨⟨x0, x1, x2, x3, x4⟩, -⟩ := BA.five
                    obtain ⟨⟨y0, y1, y2, y3, y4⟩, -⟩ := BC.five
                    go_wp2_with fail
                    refine region_steps 12 [some 106, some 107, some 108, some 109, some 110, some 111, some 112, some 113, some 105, some 114, some 115, some 16] (by kernel_rfl) (by kernel_rfl) ?_
                    -- 0: Op.move (Operand.tmp 9)
                    apply ls_val
                    · intro x w' hb hpre K hK
                      have hc := (bcell hb).1
                      clear hpre
                      simp only [frL, Act.put, List.setIfInBounds_toArray, List.set_cons_zero, List.set_cons_succ, Nat.zero_add, Nat.reduceAdd] at hK ⊢
                      have HK := Lib.hid hK
                      clear hK
                      refine Held.mk ?_
                      go_simp
                      exact HK.out _ (Below.refl _ _)
                    -- 1: Op.load 24 (Operand.tmp 7)
                    apply ls_val
                    · intro x w' hb hpre K hK
                      have hc := (bcell hb).1
                      clear hpre
                      simp only [frL, Act.put, List.setIfInBounds_toArray, List.set_cons_zero, List.set_cons_succ, Nat.zero_add, Nat.reduceAdd] at hK ⊢
                      have HK := Lib.hid hK
                      clear hK
                      refine Held.mk ?_
                      go_simp
                      exact HK.out _ (Below.refl _ _)
                    -- 2: Op.buildSlice 46 1 #[(0, Operand.tmp 107)]
                    refine ls_gen (.row W8.heap.size 1 #[.int .i64 k, .int .i64 n, .int .i64 s, .string t, .bool b] 24) ?_ ?_
                    · intro x w' hb hpre K hK
                      have p0 := hpre.1 rfl
                      clear hpre
                      simp [phi, MP.val] at p0
                      simp only [frL, Act.put, List.setIfInBounds_toArray, List.set_cons_zero, List.set_cons_succ, Nat.zero_add, Nat.reduceAdd, p0] at hK ⊢
                      have HK := Lib.hid hK
                      clear hK
                      refine Held.mk ?_
                      go_simp
                      exact HK.out _ _ ⟨_, rfl, hb.size, Blk.new _ _ _⟩ ((Below.refl _ _).alloc (Nat.le_refl _) _)
                    -- 3: Op.load 24 (Operand.tmp 8)
                    apply ls_val
                    · intro x w' hb hpre K hK
                      have hc := (bcell hb).1
                      clear hpre
                      simp only [frL, Act.put, List.setIfInBounds_toArray, List.set_cons_zero, List.set_cons_succ, Nat.zero_add, Nat.reduceAdd] at hK ⊢
                      have HK := Lib.hid hK
                      clear hK
                      refine Held.mk ?_
                      go_simp
                      exact HK.out _ (Below.refl _ _)
                    -- 4: Op.buildSlice 46 1 #[(0, Operand.tmp 109)]
                    refine ls_gen (.row W8.heap.size 1 #[.int .i64 k2, .int .i64 n2, .int .i64 s2, .string t2, .bool b2] 24) ?_ ?_
                    · intro x w' hb hpre K hK
                      have p0 := hpre.1 rfl
                      clear hpre
                      simp [phi, MP.val] at p0
                      simp only [frL, Act.put, List.setIfInBounds_toArray, List.set_cons_zero, List.set_cons_succ, Nat.zero_add, Nat.reduceAdd, p0] at hK ⊢
                      have HK := Lib.hid hK
                      clear hK
                      refine Held.mk ?_
                      go_simp
                      exact HK.out _ _ ⟨_, rfl, hb.size, Blk.new _ _ _⟩ ((Below.refl _ _).alloc (Nat.le_refl _) _)
                    -- 5: Op.move (Operand.tmp 2)
                    apply ls_val
                    · intro x w' hb hpre K hK
                      have hc := (bcell hb).1
                      clear hpre
                      simp only [frL, Act.put, List.setIfInBounds_toArray, List.set_cons_zero, List.set_cons_succ, Nat.zero_add, Nat.reduceAdd] at hK ⊢
                      have HK := Lib.hid hK
                      clear hK
                      refine Held.mk ?_
                      go_simp
                      exact HK.out _ (Below.refl _ _)
                    -- 6: Op.call { callee := Callee.builtin Builtin.append, args := #[Operand.tmp 110, Operand.tmp 
                    refine ls_gen (MPtr ((⟨k2, n2, s2, t2, b2⟩ : At) :: xs)) ?_ ?_
                    · intro x w' hb hpre K hK
                      have p0 := hpre.1 rfl
                      have p1 := hpre.2.1 rfl
                      clear hpre
                      simp [phi, MP.row] at p0
                      simp [phi, MP.val] at p1
                      obtain ⟨q9, hq9, -, hB9⟩ := p0
                      refine Held.mk (step_append_more ?_ (.tmp 110) (.tmp 111) ?_ q9 ⟨k2, n2, s2, t2, b2⟩ ?_ hB9 ad cap xs ?_ (HX.out.on (hw8.trans (hb.mono hw8.size))) hnil (by omega) ?_)
                      · rfl
                      · rfl
                      · simp only [frL, Act.put, List.setIfInBounds_toArray, List.set_cons_zero, List.set_cons_succ, Nat.zero_add, Nat.reduceAdd]
                        simp [Act.eval, hq9]
                      · simp only [frL, Act.put, List.setIfInBounds_toArray, List.set_cons_zero, List.set_cons_succ, Nat.zero_add, Nat.reduceAdd]
                        simp [Act.eval, p1]
                      · exact fun v w'' h1 h2 => hK v w'' h1 h2
                    -- 7: Op.call { callee := Callee.value (Operand.func 31), args := #[Operand.tmp 106, Operand.tmp
                    refine ls_val (v := .tuple #[.bool true, .int .i64 0]) ?_ ?_
                    · intro x w' hb hpre K hK
                      have p0 := hpre.1 rfl
                      have p1 := hpre.2.1 rfl
                      have p2 := hpre.2.2.1 rfl
                      clear hpre
                      simp [phi, MP.val] at p0
                      simp [phi, MP.row] at p1
                      obtain ⟨q6, h6, -, hB6⟩ := p1
                      obtain ⟨a4, c4, h4, hT4⟩ : ∃ a c, x 6 = .slice a (xs.length + 1) c ∧ TRow w' a (⟨k2, n2, s2, t2, b2⟩ :: xs) := p2
                      simp only [frL, Act.put, List.setIfInBounds_toArray, List.set_cons_zero, List.set_cons_succ, Nat.zero_add, Nat.reduceAdd, p0, h6, h4] at hK ⊢
                      have HK := Lib.hid hK
                      clear hK
                      refine Held.mk ?_
                      go_simp
                      with_reducible refine (C3.out (by simp) q6 a4 c4 w' (hw8.trans (hb.mono hw8.size)) hB6 hT4).mono ?_
                      rintro e w1 ⟨rfl, hb1⟩
                      dsimp only
                      exact HK.out _ hb1
                    -- 8: Op.move (Operand.tmp 113)
                    refine ls_val (v := .tuple #[.bool true, .int .i64 0]) ?_ ?_
                    · intro x w' hb hpre K hK
                      have p0 := hpre.1 rfl
                      clear hpre
                      simp [phi, MP.val] at p0
                      simp only [frL, Act.put, List.setIfInBounds_toArray, List.set_cons_zero, List.set_cons_succ, Nat.zero_add, Nat.reduceAdd, p0] at hK ⊢
                      have HK := Lib.hid hK
                      clear hK
                      refine Held.mk ?_
                      go_simp
                      exact HK.out _ (Below.refl _ _)
                    -- 9: Op.extract (Operand.tmp 105) 0
                    refine ls_val (v := .bool true) ?_ ?_
                    · intro x w' hb hpre K hK
                      have p0 := hpre.1 rfl
                      clear hpre
                      simp [phi, MP.val] at p0
                      simp only [frL, Act.put, List.setIfInBounds_toArray, List.set_cons_zero, List.set_cons_succ, Nat.zero_add, Nat.reduceAdd, p0] at hK ⊢
                      have HK := Lib.hid hK
                      clear hK
                      refine Held.mk ?_
                      go_simp
                      exact HK.out _ (Below.refl _ _)
                    -- 10: Op.extract (Operand.tmp 105) 1
                    refine ls_val (v := .int .i64 0) ?_ ?_
                    · intro x w' hb hpre K hK
                      have p0 := hpre.1 rfl
                      clear hpre
                      simp [phi, MP.val] at p0
                      simp only [frL, Act.put, List.setIfInBounds_toArray, List.set_cons_zero, List.set_cons_succ, Nat.zero_add, Nat.reduceAdd, p0] at hK ⊢
                      have HK := Lib.hid hK
                      clear hK
                      refine Held.mk ?_
                      go_simp
                      exact HK.out _ (Below.refl _ _)
                    -- 11: Op.assign (Operand.tmp 114)
                    refine ls_val (v := .bool true) ?_ ?_
                    · intro x w' hb hpre K hK
                      have p0 := hpre.1 rfl
                      clear hpre
                      simp [phi, MP.val] at p0
                      simp only [frL, Act.put, List.setIfInBounds_toArray, List.set_cons_zero, List.set_cons_succ, Nat.zero_add, Nat.reduceAdd, p0] at hK ⊢
                      have HK := Lib.hid hK
                      clear hK
                      refine Held.mk ?_
                      go_simp
                      exact HK.out _ (Below.refl _ _)
                    intro x w' hb hp
                    simp only [List.cons_append, List.nil_append, phis, MP.val, MP.box, MP.row, frL, Act.put, List.setIfInBounds_toArray, List.set_cons_zero, List.set_cons_succ, Nat.zero_add, Nat.reduceAdd] at hp ⊢
                    obtain ⟨h0, h1, h2, h3, h4, h5, h6, h7, h8, h9, h10, h11, -⟩ := hp
                    simp only [h0, h1, h3, h5, h7, h8, h9, h10, h11]
                    clear h0 h1 h3 h5 h7 h8 h9 h10 h11
                    obtain ⟨q92, e92, -, -⟩ : ∃ q, x 2 = .slice (some ⟨q, 0, none⟩) 1 1 ∧ W8.heap.size ≤ q ∧ Blk w' q #[.int .i64 k, .int .i64 n, .int .i64 s, .string t, .bool b] 24 := h2
                    obtain ⟨q94, e94, -, -⟩ : ∃ q, x 4 = .slice (some ⟨q, 0, none⟩) 1 1 ∧ W8.heap.size ≤ q ∧ Blk w' q #[.int .i64 k2, .int .i64 n2, .int .i64 s2, .string t2, .bool b2] 24 := h4
                    obtain ⟨a96, c96, e96, -⟩ : ∃ a c, x 6 = .slice a (xs.length + 1) c ∧ TRow w' a (⟨k2, n2, s2, t2, b2⟩ :: xs) := h6
                    simp only [e92, e94, e96]
                    have hw9 := hw8.trans (hb.mono hw8.size)
                    clear e92 e94 e96 kA kC x0 x1 x2 x3 x4 y0 y1 y2 y3 y4 BA BC
                    go_wp2_with fail
                    exact bodyPost_ret (v := .bool true) (by simp [results, Tryz.results10, go_sem]) rfl ⟨rfl, hw9⟩
                ·
                  go_wp2_with fail
                  exact bodyPost_ret (v := .bool true) (by simp [results, Tryz.results10, go_sem]) rfl ⟨rfl, hw6⟩
              · cases ek2 : (k2 != 5)
                ·
                  cases g1 : (gr != 0)
                  · obtain rfl : gr = 0 := by simpa using g1
                    cases gv
                    ·
                      go_wp2_with fail
                      exact bodyPost_ret (v := .bool true) (by simp [results, Tryz.results10, go_sem]) rfl ⟨rfl, hw6⟩
                    ·
                      go_wp2_with fail
                      refine region_steps 12 [some 95, some 96, some 97, some 98, some 99, some 100, some 101, some 102, some 94, some 103, some 104, some 14] (by kernel_rfl) (by kernel_rfl) ?_
                      -- 0: Op.move (Operand.tmp 9)
                      apply ls_val
                      · intro x w' hb hpre K hK
                        have hc := (bcell hb).1
                        clear hpre
                        simp only [frL, Act.put, List.setIfInBounds_toArray, List.set_cons_zero, List.set_cons_succ, Nat.zero_add, Nat.reduceAdd] at hK ⊢
                        have HK := Lib.hid hK
                        clear hK
                        refine Held.mk ?_
                        go_simp
                        exact HK.out _ (Below.refl _ _)
                      -- 1: Op.load 24 (Operand.tmp 7)
                      apply ls_val
                      · intro x w' hb hpre K hK
                        have hc := (bcell hb).1
                        clear hpre
                        simp only [frL, Act.put, List.setIfInBounds_toArray, List.set_cons_zero, List.set_cons_succ, Nat.zero_add, Nat.reduceAdd] at hK ⊢
                        have HK := Lib.hid hK
                        clear hK
                        refine Held.mk ?_
                        go_simp
                        exact HK.out _ (Below.refl _ _)
                      -- 2: Op.buildSlice 46 1 #[(0, Operand.tmp 96)]
                      refine ls_gen (.row w6.heap.size 1 #[.int .i64 k, .int .i64 n, .int .i64 s, .string t, .bool b] 24) ?_ ?_
                      · intro x w' hb hpre K hK
                        have p0 := hpre.1 rfl
                        clear hpre
                        simp [phi, MP.val] at p0
                        simp only [frL, Act.put, List.setIfInBounds_toArray, List.set_cons_zero, List.set_cons_succ, Nat.zero_add, Nat.reduceAdd, p0] at hK ⊢
                        have HK := Lib.hid hK
                        clear hK
                        refine Held.mk ?_
                        go_simp
                        exact HK.out _ _ ⟨_, rfl, hb.size, Blk.new _ _ _⟩ ((Below.refl _ _).alloc (Nat.le_refl _) _)
                      -- 3: Op.move (Operand.tmp 2)
                      apply ls_val
                      · intro x w' hb hpre K hK
                        have hc := (bcell hb).1
                        clear hpre
                        simp only [frL, Act.put, List.setIfInBounds_toArray, List.set_cons_zero, List.set_cons_succ, Nat.zero_add, Nat.reduceAdd] at hK ⊢
                        have HK := Lib.hid hK
                        clear hK
                        refine Held.mk ?_
                        go_simp
                        exact HK.out _ (Below.refl _ _)
                      -- 4: Op.call { callee := Callee.builtin Builtin.append, args := #[Operand.tmp 97, Operand.tmp 9
                      refine ls_gen (MPtr ((⟨k, n, s, t, b⟩ : At) :: xs)) ?_ ?_
                      · intro x w' hb hpre K hK
                        have p0 := hpre.1 rfl
                        have p1 := hpre.2.1 rfl
                        clear hpre
                        simp [phi, MP.row] at p0
                        simp [phi, MP.val] at p1
                        obtain ⟨q9, hq9, -, hB9⟩ := p0
                        refine Held.mk (step_append_more ?_ (.tmp 97) (.tmp 98) ?_ q9 ⟨k, n, s, t, b⟩ ?_ hB9 ad cap xs ?_ (HX.out.on (hw6.trans (hb.mono hw6.size))) hnil (by omega) ?_)
                        · rfl
                        · rfl
                        · simp only [frL, Act.put, List.setIfInBounds_toArray, List.set_cons_zero, List.set_cons_succ, Nat.zero_add, Nat.reduceAdd]
                          simp [Act.eval, hq9]
                        · simp only [frL, Act.put, List.setIfInBounds_toArray, List.set_cons_zero, List.set_cons_succ, Nat.zero_add, Nat.reduceAdd]
                          simp [Act.eval, p1]
                        · exact fun v w'' h1 h2 => hK v w'' h1 h2
                      -- 5: Op.load 24 (Operand.tmp 8)
                      apply ls_val
                      · intro x w' hb hpre K hK
                        have hc := (bcell hb).1
                        clear hpre
                        simp only [frL, Act.put, List.setIfInBounds_toArray, List.set_cons_zero, List.set_cons_succ, Nat.zero_add, Nat.reduceAdd] at hK ⊢
                        have HK := Lib.hid hK
                        clear hK
                        refine Held.mk ?_
                        go_simp
                        exact HK.out _ (Below.refl _ _)
                      -- 6: Op.buildSlice 46 1 #[(0, Operand.tmp 100)]
                      refine ls_gen (.row w6.heap.size 1 #[.int .i64 k2, .int .i64 n2, .int .i64 s2, .string t2, .bool b2] 24) ?_ ?_
                      · intro x w' hb hpre K hK
                        have p0 := hpre.1 rfl
                        clear hpre
                        simp [phi, MP.val] at p0
                        simp only [frL, Act.put, List.setIfInBounds_toArray, List.set_cons_zero, List.set_cons_succ, Nat.zero_add, Nat.reduceAdd, p0] at hK ⊢
                        have HK := Lib.hid hK
                        clear hK
                        refine Held.mk ?_
                        go_simp
                        exact HK.out _ _ ⟨_, rfl, hb.size, Blk.new _ _ _⟩ ((Below.refl _ _).alloc (Nat.le_refl _) _)
                      -- 7: Op.call { callee := Callee.value (Operand.func 31), args := #[Operand.tmp 95, Operand.tmp 
                      refine ls_val (v := .tuple #[.bool true, .int .i64 0]) ?_ ?_
                      · intro x w' hb hpre K hK
                        have p0 := hpre.1 rfl
                        have p1 := hpre.2.1 rfl
                        have p2 := hpre.2.2.1 rfl
                        clear hpre
                        simp [phi, MP.val] at p0
                        simp [phi, MP.row] at p2
                        obtain ⟨a4, c4, h4, hT4⟩ : ∃ a c, x 4 = .slice a (xs.length + 1) c ∧ TRow w' a (⟨k, n, s, t, b⟩ :: xs) := p1
                        obtain ⟨q6, h6, -, hB6⟩ := p2
                        simp only [frL, Act.put, List.setIfInBounds_toArray, List.set_cons_zero, List.set_cons_succ, Nat.zero_add, Nat.reduceAdd, p0, h4, h6] at hK ⊢
                        have HK := Lib.hid hK
                        clear hK
                        refine Held.mk ?_
                        go_simp
                        with_reducible refine (C2.out (by simp) a4 c4 q6 w' (hw6.trans (hb.mono hw6.size)) hT4 hB6).mono ?_
                        rintro e w1 ⟨rfl, hb1⟩
                        dsimp only
                        exact HK.out _ hb1
                      -- 8: Op.move (Operand.tmp 102)
                      refine ls_val (v := .tuple #[.bool true, .int .i64 0]) ?_ ?_
                      · intro x w' hb hpre K hK
                        have p0 := hpre.1 rfl
                        clear hpre
                        simp [phi, MP.val] at p0
                        simp only [frL, Act.put, List.setIfInBounds_toArray, List.set_cons_zero, List.set_cons_succ, Nat.zero_add, Nat.reduceAdd, p0] at hK ⊢
                        have HK := Lib.hid hK
                        clear hK
                        refine Held.mk ?_
                        go_simp
                        exact HK.out _ (Below.refl _ _)
                      -- 9: Op.extract (Operand.tmp 94) 0
                      refine ls_val (v := .bool true) ?_ ?_
                      · intro x w' hb hpre K hK
                        have p0 := hpre.1 rfl
                        clear hpre
                        simp [phi, MP.val] at p0
                        simp only [frL, Act.put, List.setIfInBounds_toArray, List.set_cons_zero, List.set_cons_succ, Nat.zero_add, Nat.reduceAdd, p0] at hK ⊢
                        have HK := Lib.hid hK
                        clear hK
                        refine Held.mk ?_
                        go_simp
                        exact HK.out _ (Below.refl _ _)
                      -- 10: Op.extract (Operand.tmp 94) 1
                      refine ls_val (v := .int .i64 0) ?_ ?_
                      · intro x w' hb hpre K hK
                        have p0 := hpre.1 rfl
                        clear hpre
                        simp [phi, MP.val] at p0
                        simp only [frL, Act.put, List.setIfInBounds_toArray, List.set_cons_zero, List.set_cons_succ, Nat.zero_add, Nat.reduceAdd, p0] at hK ⊢
                        have HK := Lib.hid hK
                        clear hK
                        refine Held.mk ?_
                        go_simp
                        exact HK.out _ (Below.refl _ _)
                      -- 11: Op.assign (Operand.tmp 103)
                      refine ls_val (v := .bool true) ?_ ?_
                      · intro x w' hb hpre K hK
                        have p0 := hpre.1 rfl
                        clear hpre
                        simp [phi, MP.val] at p0
                        simp only [frL, Act.put, List.setIfInBounds_toArray, List.set_cons_zero, List.set_cons_succ, Nat.zero_add, Nat.reduceAdd, p0] at hK ⊢
                        have HK := Lib.hid hK
                        clear hK
                        refine Held.mk ?_
                        go_simp
                        exact HK.out _ (Below.refl _ _)
                      intro x w' hb hp
                      simp only [List.cons_append, List.nil_append, phis, MP.val, MP.box, MP.row, frL, Act.put, List.setIfInBounds_toArray, List.set_cons_zero, List.set_cons_succ, Nat.zero_add, Nat.reduceAdd] at hp ⊢
                      obtain ⟨h0, h1, h2, h3, h4, h5, h6, h7, h8, h9, h10, h11, -⟩ := hp
                      simp only [h0, h1, h3, h5, h7, h8, h9, h10, h11]
                      clear h0 h1 h3 h5 h7 h8 h9 h10 h11
                      obtain ⟨q92, e92, -, -⟩ : ∃ q, x 2 = .slice (some ⟨q, 0, none⟩) 1 1 ∧ w6.heap.size ≤ q ∧ Blk w' q #[.int .i64 k, .int .i64 n, .int .i64 s, .string t, .bool b] 24 := h2
                      obtain ⟨a94, c94, e94, -⟩ : ∃ a c, x 4 = .slice a (xs.length + 1) c ∧ TRow w' a (⟨k, n, s, t, b⟩ :: xs) := h4
                      obtain ⟨q96, e96, -, -⟩ : ∃ q, x 6 = .slice (some ⟨q, 0, none⟩) 1 1 ∧ w6.heap.size ≤ q ∧ Blk w' q #[.int .i64 k2, .int .i64 n2, .int .i64 s2, .string t2, .bool b2] 24 := h6
                      simp only [e92, e94, e96]
                      obtain ⟨W8, hW8⟩ : ∃ W8, W8 = w' := ⟨_, rfl⟩
                      subst hW8
                      have hw8 := hw6.trans (hb.mono hw6.size)
                      clear e92 e94 e96 x
                      replace BA := BA.below hb BA.lt
                      replace BC := BC.below hb BC.lt
                      clear hb kA kC x0 x1 x2 x3 x4 y0 y1 y2 y3 y4
                      have kA := BA.lt
                      have kC := BC.lt
                      obtain ⟨⟨x0, x1, x2, x3, x4⟩, -⟩ := BA.five
                      obtain ⟨⟨y0, y1, y2, y3, y4⟩, -⟩ := BC.five
                      go_wp2_with fail
                      refine region_steps 12 [some 106, some 107, some 108, some 109, some 110, some 111, some 112, some 113, some 105, some 114, some 115, some 16] (by kernel_rfl) (by kernel_rfl) ?_
                      -- 0: Op.move (Operand.tmp 9)
                      apply ls_val
                      · intro x w' hb hpre K hK
                        have hc := (bcell hb).1
                        clear hpre
                        simp only [frL, Act.put, List.setIfInBounds_toArray, List.set_cons_zero, List.set_cons_succ, Nat.zero_add, Nat.reduceAdd] at hK ⊢
                        have HK := Lib.hid hK
                        clear hK
                        refine Held.mk ?_
                        go_simp
                        exact HK.out _ (Below.refl _ _)
                      -- 1: Op.load 24 (Operand.tmp 7)
                      apply ls_val
                      · intro x w' hb hpre K hK
                        have hc := (bcell hb).1
                        clear hpre
                        simp only [frL, Act.put, List.setIfInBounds_toArray, List.set_cons_zero, List.set_cons_succ, Nat.zero_add, Nat.reduceAdd] at hK ⊢
                        have HK := Lib.hid hK
                        clear hK
                        refine Held.mk ?_
                        go_simp
                        exact HK.out _ (Below.refl _ _)
                      -- 2: Op.buildSlice 46 1 #[(0, Operand.tmp 107)]
                      refine ls_gen (.row W8.heap.size 1 #[.int .i64 k, .int .i64 n, .int .i64 s, .string t, .bool b] 24) ?_ ?_
                      · intro x w' hb hpre K hK
                        have p0 := hpre.1 rfl
                        clear hpre
                        simp [phi, MP.val] at p0
                        simp only [frL, Act.put, List.setIfInBounds_toArray, List.set_cons_zero, List.set_cons_succ, Nat.zero_add, Nat.reduceAdd, p0] at hK ⊢
                        have HK := Lib.hid hK
                        clear hK
                        refine Held.mk ?_
                        go_simp
                        exact HK.out _ _ ⟨_, rfl, hb.size, Blk.new _ _ _⟩ ((Below.refl _ _).alloc (Nat.le_refl _) _)
                      -- 3: Op.load 24 (Operand.tmp 8)
                      apply ls_val
                      · intro x w' hb hpre K hK
                        have hc := (bcell hb).1
                        clear hpre
                        simp only [frL, Act.put, List.setIfInBounds_toArray, List.set_cons_zero, List.set_cons_succ, Nat.zero_add, Nat.reduceAdd] at hK ⊢
                        have HK := Lib.hid hK
                        clear hK
                        refine Held.mk ?_
                        go_simp
                        exact HK.out _ (Below.refl _ _)
                      -- 4: Op.buildSlice 46 1 #[(0, Operand.tmp 109)]
                      refine ls_gen (.row W8.heap.size 1 #[.int .i64 k2, .int .i64 n2, .int .i64 s2, .string t2, .bool b2] 24) ?_ ?_
                      · intro x w' hb hpre K hK
                        have p0 := hpre.1 rfl
                        clear hpre
                        simp [phi, MP.val] at p0
                        simp only [frL, Act.put, List.setIfInBounds_toArray, List.set_cons_zero, List.set_cons_succ, Nat.zero_add, Nat.reduceAdd, p0] at hK ⊢
                        have HK := Lib.hid hK
                        clear hK
                        refine Held.mk ?_
                        go_simp
                        exact HK.out _ _ ⟨_, rfl, hb.size, Blk.new _ _ _⟩ ((Below.refl _ _).alloc (Nat.le_refl _) _)
                      -- 5: Op.move (Operand.tmp 2)
                      apply ls_val
                      · intro x w' hb hpre K hK
                        have hc := (bcell hb).1
                        clear hpre
                        simp only [frL, Act.put, List.setIfInBounds_toArray, List.set_cons_zero, List.set_cons_succ, Nat.zero_add, Nat.reduceAdd] at hK ⊢
                        have HK := Lib.hid hK
                        clear hK
                        refine Held.mk ?_
                        go_simp
                        exact HK.out _ (Below.refl _ _)
                      -- 6: Op.call { callee := Callee.builtin Builtin.append, args := #[Operand.tmp 110, Operand.tmp 
                      refine ls_gen (MPtr ((⟨k2, n2, s2, t2, b2⟩ : At) :: xs)) ?_ ?_
                      · intro x w' hb hpre K hK
                        have p0 := hpre.1 rfl
                        have p1 := hpre.2.1 rfl
                        clear hpre
                        simp [phi, MP.row] at p0
                        simp [phi, MP.val] at p1
                        obtain ⟨q9, hq9, -, hB9⟩ := p0
                        refine Held.mk (step_append_more ?_ (.tmp 110) (.tmp 111) ?_ q9 ⟨k2, n2, s2, t2, b2⟩ ?_ hB9 ad cap xs ?_ (HX.out.on (hw8.trans (hb.mono hw8.size))) hnil (by omega) ?_)
                        · rfl
                        · rfl
                        · simp only [frL, Act.put, List.setIfInBounds_toArray, List.set_cons_zero, List.set_cons_succ, Nat.zero_add, Nat.reduceAdd]
                          simp [Act.eval, hq9]
                        · simp only [frL, Act.put, List.setIfInBounds_toArray, List.set_cons_zero, List.set_cons_succ, Nat.zero_add, Nat.reduceAdd]
                          simp [Act.eval, p1]
                        · exact fun v w'' h1 h2 => hK v w'' h1 h2
                      -- 7: Op.call { callee := Callee.value (Operand.func 31), args := #[Operand.tmp 106, Operand.tmp
                      refine ls_val (v := .tuple #[.bool true, .int .i64 0]) ?_ ?_
                      · intro x w' hb hpre K hK
                        have p0 := hpre.1 rfl
                        have p1 := hpre.2.1 rfl
                        have p2 := hpre.2.2.1 rfl
                        clear hpre
                        simp [phi, MP.val] at p0
                        simp [phi, MP.row] at p1
                        obtain ⟨q6, h6, -, hB6⟩ := p1
                        obtain ⟨a4, c4, h4, hT4⟩ : ∃ a c, x 6 = .slice a (xs.length + 1) c ∧ TRow w' a (⟨k2, n2, s2, t2, b2⟩ :: xs) := p2
                        simp only [frL, Act.put, List.setIfInBounds_toArray, List.set_cons_zero, List.set_cons_succ, Nat.zero_add, Nat.reduceAdd, p0, h6, h4] at hK ⊢
                        have HK := Lib.hid hK
                        clear hK
                        refine Held.mk ?_
                        go_simp
                        with_reducible refine (C3.out (by simp) q6 a4 c4 w' (hw8.trans (hb.mono hw8.size)) hB6 hT4).mono ?_
                        rintro e w1 ⟨rfl, hb1⟩
                        dsimp only
                        exact HK.out _ hb1
                      -- 8: Op.move (Operand.tmp 113)
                      refine ls_val (v := .tuple #[.bool true, .int .i64 0]) ?_ ?_
                      · intro x w' hb hpre K hK
                        have p0 := hpre.1 rfl
                        clear hpre
                        simp [phi, MP.val] at p0
                        simp only [frL, Act.put, List.setIfInBounds_toArray, List.set_cons_zero, List.set_cons_succ, Nat.zero_add, Nat.reduceAdd, p0] at hK ⊢
                        have HK := Lib.hid hK
                        clear hK
                        refine Held.mk ?_
                        go_simp
                        exact HK.out _ (Below.refl _ _)
                      -- 9: Op.extract (Operand.tmp 105) 0
                      refine ls_val (v := .bool true) ?_ ?_
                      · intro x w' hb hpre K hK
                        have p0 := hpre.1 rfl
                        clear hpre
                        simp [phi, MP.val] at p0
                        simp only [frL, Act.put, List.setIfInBounds_toArray, List.set_cons_zero, List.set_cons_succ, Nat.zero_add, Nat.reduceAdd, p0] at hK ⊢
                        have HK := Lib.hid hK
                        clear hK
                        refine Held.mk ?_
                        go_simp
                        exact HK.out _ (Below.refl _ _)
                      -- 10: Op.extract (Operand.tmp 105) 1
                      refine ls_val (v := .int .i64 0) ?_ ?_
                      · intro x w' hb hpre K hK
                        have p0 := hpre.1 rfl
                        clear hpre
                        simp [phi, MP.val] at p0
                        simp only [frL, Act.put, List.setIfInBounds_toArray, List.set_cons_zero, List.set_cons_succ, Nat.zero_add, Nat.reduceAdd, p0] at hK ⊢
                        have HK := Lib.hid hK
                        clear hK
                        refine Held.mk ?_
                        go_simp
                        exact HK.out _ (Below.refl _ _)
                      -- 11: Op.assign (Operand.tmp 114)
                      refine ls_val (v := .bool true) ?_ ?_
                      · intro x w' hb hpre K hK
                        have p0 := hpre.1 rfl
                        clear hpre
                        simp [phi, MP.val] at p0
                        simp only [frL, Act.put, List.setIfInBounds_toArray, List.set_cons_zero, List.set_cons_succ, Nat.zero_add, Nat.reduceAdd, p0] at hK ⊢
                        have HK := Lib.hid hK
                        clear hK
                        refine Held.mk ?_
                        go_simp
                        exact HK.out _ (Below.refl _ _)
                      intro x w' hb hp
                      simp only [List.cons_append, List.nil_append, phis, MP.val, MP.box, MP.row, frL, Act.put, List.setIfInBounds_toArray, List.set_cons_zero, List.set_cons_succ, Nat.zero_add, Nat.reduceAdd] at hp ⊢
                      obtain ⟨h0, h1, h2, h3, h4, h5, h6, h7, h8, h9, h10, h11, -⟩ := hp
                      simp only [h0, h1, h3, h5, h7, h8, h9, h10, h11]
                      clear h0 h1 h3 h5 h7 h8 h9 h10 h11
                      obtain ⟨q92, e92, -, -⟩ : ∃ q, x 2 = .slice (some ⟨q, 0, none⟩) 1 1 ∧ W8.heap.size ≤ q ∧ Blk w' q #[.int .i64 k, .int .i64 n, .int .i64 s, .string t, .bool b] 24 := h2
                      obtain ⟨q94, e94, -, -⟩ : ∃ q, x 4 = .slice (some ⟨q, 0, none⟩) 1 1 ∧ W8.heap.size ≤ q ∧ Blk w' q #[.int .i64 k2, .int .i64 n2, .int .i64 s2, .string t2, .bool b2] 24 := h4
                      obtain ⟨a96, c96, e96, -⟩ : ∃ a c, x 6 = .slice a (xs.length + 1) c ∧ TRow w' a (⟨k2, n2, s2, t2, b2⟩ :: xs) := h6
                      simp only [e92, e94, e96]
                      have hw9 := hw8.trans (hb.mono hw8.size)
                      clear e92 e94 e96 kA kC x0 x1 x2 x3 x4 y0 y1 y2 y3 y4 BA BC
                      go_wp2_with fail
                      exact bodyPost_ret (v := .bool true) (by simp [results, Tryz.results10, go_sem]) rfl ⟨rfl, hw9⟩
                  ·
                    go_wp2_with fail
                    exact bodyPost_ret (v := .bool true) (by simp [results, Tryz.results10, go_sem]) rfl ⟨rfl, hw6⟩
                · have hv := HP.out ek ek2
                  rw [hv] at CV
                  go_wp2_with fail
                  with_reducible refine (CV.out _).mono ?_
                  rintro e w7 ⟨rfl, hb⟩
                  have hw7 : Below w.heap.size w w7 := Below.trans hw6 (hb.mono (by have := hw6.size; simp <;> omega))
                  replace BA := BA.below hb BA.lt
                  replace BC := BC.below hb BC.lt
                  clear hb kA kC x0 x1 x2 x3 x4 y0 y1 y2 y3 y4
                  have kA := BA.lt
                  have kC := BC.lt
                  obtain ⟨⟨x0, x1, x2, x3, x4⟩, -⟩ := BA.five
                  obtain ⟨⟨y0, y1, y2, y3, y4⟩, -⟩ := BC.five
                  clear HP CV
                  cases g1 : (gr != 0)
                  · obtain rfl : gr = 0 := by simpa using g1
                    cases gv
                    ·
                      go_wp2_with fail
                      exact bodyPost_ret (v := .bool true) (by simp [results, Tryz.results10, go_sem]) rfl ⟨rfl, hw7⟩
                    ·
                      go_wp2_with fail
                      refine region_steps 12 [some 95, some 96, some 97, some 98, some 99, some 100, some 101, some 102, some 94, some 103, some 104, some 14] (by kernel_rfl) (by kernel_rfl) ?_
                      -- 0: Op.move (Operand.tmp 9)
                      apply ls_val
                      · intro x w' hb hpre K hK
                        have hc := (bcell hb).1
                        clear hpre
                        simp only [frL, Act.put, List.setIfInBounds_toArray, List.set_cons_zero, List.set_cons_succ, Nat.zero_add, Nat.reduceAdd] at hK ⊢
                        have HK := Lib.hid hK
                        clear hK
                        refine Held.mk ?_
                        go_simp
                        exact HK.out _ (Below.refl _ _)
                      -- 1: Op.load 24 (Operand.tmp 7)
                      apply ls_val
                      · intro x w' hb hpre K hK
                        have hc := (bcell hb).1
                        clear hpre
                        simp only [frL, Act.put, List.setIfInBounds_toArray, List.set_cons_zero, List.set_cons_succ, Nat.zero_add, Nat.reduceAdd] at hK ⊢
                        have HK := Lib.hid hK
                        clear hK
                        refine Held.mk ?_
                        go_simp
                        exact HK.out _ (Below.refl _ _)
                      -- 2: Op.buildSlice 46 1 #[(0, Operand.tmp 96)]
                      refine ls_gen (.row w7.heap.size 1 #[.int .i64 k, .int .i64 n, .int .i64 s, .string t, .bool b] 24) ?_ ?_
                      · intro x w' hb hpre K hK
                        have p0 := hpre.1 rfl
                        clear hpre
                        simp [phi, MP.val] at p0
                        simp only [frL, Act.put, List.setIfInBounds_toArray, List.set_cons_zero, List.set_cons_succ, Nat.zero_add, Nat.reduceAdd, p0] at hK ⊢
                        have HK := Lib.hid hK
                        clear hK
                        refine Held.mk ?_
                        go_simp
                        exact HK.out _ _ ⟨_, rfl, hb.size, Blk.new _ _ _⟩ ((Below.refl _ _).alloc (Nat.le_refl _) _)
                      -- 3: Op.move (Operand.tmp 2)
                      apply ls_val
                      · intro x w' hb hpre K hK
                        have hc := (bcell hb).1
                        clear hpre
                        simp only [frL, Act.put, List.setIfInBounds_toArray, List.set_cons_zero, List.set_cons_succ, Nat.zero_add, Nat.reduceAdd] at hK ⊢
                        have HK := Lib.hid hK
                        clear hK
                        refine Held.mk ?_
                        go_simp
                        exact HK.out _ (Below.refl _ _)
                      -- 4: Op.call { callee := Callee.builtin Builtin.append, args := #[Operand.tmp 97, Operand.tmp 9
                      refine ls_gen (MPtr ((⟨k, n, s, t, b⟩ : At) :: xs)) ?_ ?_
                      · intro x w' hb hpre K hK
                        have p0 := hpre.1 rfl
                        have p1 := hpre.2.1 rfl
                        clear hpre
                        simp [phi, MP.row] at p0
                        simp [phi, MP.val] at p1
                        obtain ⟨q9, hq9, -, hB9⟩ := p0
                        refine Held.mk (step_append_more ?_ (.tmp 97) (.tmp 98) ?_ q9 ⟨k, n, s, t, b⟩ ?_ hB9 ad cap xs ?_ (HX.out.on (hw7.trans (hb.mono hw7.size))) hnil (by omega) ?_)
                        · rfl
                        · rfl
                        · simp only [frL, Act.put, List.setIfInBounds_toArray, List.set_cons_zero, List.set_cons_succ, Nat.zero_add, Nat.reduceAdd]
                          simp [Act.eval, hq9]
                        · simp only [frL, Act.put, List.setIfInBounds_toArray, List.set_cons_zero, List.set_cons_succ, Nat.zero_add, Nat.reduceAdd]
                          simp [Act.eval, p1]
                        · exact fun v w'' h1 h2 => hK v w'' h1 h2
                      -- 5: Op.load 24 (Operand.tmp 8)
                      apply ls_val
                      · intro x w' hb hpre K hK
                        have hc := (bcell hb).1
                        clear hpre
                        simp only [frL, Act.put, List.setIfInBounds_toArray, List.set_cons_zero, List.set_cons_succ, Nat.zero_add, Nat.reduceAdd] at hK ⊢
                        have HK := Lib.hid hK
                        clear hK
                        refine Held.mk ?_
                        go_simp
                        exact HK.out _ (Below.refl _ _)
                      -- 6: Op.buildSlice 46 1 #[(0, Operand.tmp 100)]
                      refine ls_gen (.row w7.heap.size 1 #[.int .i64 k2, .int .i64 n2, .int .i64 s2, .string t2, .bool b2] 24) ?_ ?_
                      · intro x w' hb hpre K hK
                        have p0 := hpre.1 rfl
                        clear hpre
                        simp [phi, MP.val] at p0
                        simp only [frL, Act.put, List.setIfInBounds_toArray, List.set_cons_zero, List.set_cons_succ, Nat.zero_add, Nat.reduceAdd, p0] at hK ⊢
                        have HK := Lib.hid hK
                        clear hK
                        refine Held.mk ?_
                        go_simp
                        exact HK.out _ _ ⟨_, rfl, hb.size, Blk.new _ _ _⟩ ((Below.refl _ _).alloc (Nat.le_refl _) _)
                      -- 7: Op.call { callee := Callee.value (Operand.func 31), args := #[Operand.tmp 95, Operand.tmp 
                      refine ls_val (v := .tuple #[.bool true, .int .i64 0]) ?_ ?_
                      · intro x w' hb hpre K hK
                        have p0 := hpre.1 rfl
                        have p1 := hpre.2.1 rfl
                        have p2 := hpre.2.2.1 rfl
                        clear hpre
                        simp [phi, MP.val] at p0
                        simp [phi, MP.row] at p2
                        obtain ⟨a4, c4, h4, hT4⟩ : ∃ a c, x 4 = .slice a (xs.length + 1) c ∧ TRow w' a (⟨k, n, s, t, b⟩ :: xs) := p1
                        obtain ⟨q6, h6, -, hB6⟩ := p2
                        simp only [frL, Act.put, List.setIfInBounds_toArray, List.set_cons_zero, List.set_cons_succ, Nat.zero_add, Nat.reduceAdd, p0, h4, h6] at hK ⊢
                        have HK := Lib.hid hK
                        clear hK
                        refine Held.mk ?_
                        go_simp
                        with_reducible refine (C2.out (by simp) a4 c4 q6 w' (hw7.trans (hb.mono hw7.size)) hT4 hB6).mono ?_
                        rintro e w1 ⟨rfl, hb1⟩
                        dsimp only
                        exact HK.out _ hb1
                      -- 8: Op.move (Operand.tmp 102)
                      refine ls_val (v := .tuple #[.bool true, .int .i64 0]) ?_ ?_
                      · intro x w' hb hpre K hK
                        have p0 := hpre.1 rfl
                        clear hpre
                        simp [phi, MP.val] at p0
                        simp only [frL, Act.put, List.setIfInBounds_toArray, List.set_cons_zero, List.set_cons_succ, Nat.zero_add, Nat.reduceAdd, p0] at hK ⊢
                        have HK := Lib.hid hK
                        clear hK
                        refine Held.mk ?_
                        go_simp
                        exact HK.out _ (Below.refl _ _)
                      -- 9: Op.extract (Operand.tmp 94) 0
                      refine ls_val (v := .bool true) ?_ ?_
                      · intro x w' hb hpre K hK
                        have p0 := hpre.1 rfl
                        clear hpre
                        simp [phi, MP.val] at p0
                        simp only [frL, Act.put, List.setIfInBounds_toArray, List.set_cons_zero, List.set_cons_succ, Nat.zero_add, Nat.reduceAdd, p0] at hK ⊢
                        have HK := Lib.hid hK
                        clear hK
                        refine Held.mk ?_
                        go_simp
                        exact HK.out _ (Below.refl _ _)
                      -- 10: Op.extract (Operand.tmp 94) 1
                      refine ls_val (v := .int .i64 0) ?_ ?_
                      · intro x w' hb hpre K hK
                        have p0 := hpre.1 rfl
                        clear hpre
                        simp [phi, MP.val] at p0
                        simp only [frL, Act.put, List.setIfInBounds_toArray, List.set_cons_zero, List.set_cons_succ, Nat.zero_add, Nat.reduceAdd, p0] at hK ⊢
                        have HK := Lib.hid hK
                        clear hK
                        refine Held.mk ?_
                        go_simp
                        exact HK.out _ (Below.refl _ _)
                      -- 11: Op.assign (Operand.tmp 103)
                      refine ls_val (v := .bool true) ?_ ?_
                      · intro x w' hb hpre K hK
                        have p0 := hpre.1 rfl
                        clear hpre
                        simp [phi, MP.val] at p0
                        simp only [frL, Act.put, List.setIfInBounds_toArray, List.set_cons_zero, List.set_cons_succ, Nat.zero_add, Nat.reduceAdd, p0] at hK ⊢
                        have HK := Lib.hid hK
                        clear hK
                        refine Held.mk ?_
                        go_simp
                        exact HK.out _ (Below.refl _ _)
                      intro x w' hb hp
                      simp only [List.cons_append, List.nil_append, phis, MP.val, MP.box, MP.row, frL, Act.put, List.setIfInBounds_toArray, List.set_cons_zero, List.set_cons_succ, Nat.zero_add, Nat.reduceAdd] at hp ⊢
                      obtain ⟨h0, h1, h2, h3, h4, h5, h6, h7, h8, h9, h10, h11, -⟩ := hp
                      simp only [h0, h1, h3, h5, h7, h8, h9, h10, h11]
                      clear h0 h1 h3 h5 h7 h8 h9 h10 h11
                      obtain ⟨q92, e92, -, -⟩ : ∃ q, x 2 = .slice (some ⟨q, 0, none⟩) 1 1 ∧ w7.heap.size ≤ q ∧ Blk w' q #[.int .i64 k, .int .i64 n, .int .i64 s, .string t, .bool b] 24 := h2
                      obtain ⟨a94, c94, e94, -⟩ : ∃ a c, x 4 = .slice a (xs.length + 1) c ∧ TRow w' a (⟨k, n, s, t, b⟩ :: xs) := h4
                      obtain ⟨q96, e96, -, -⟩ : ∃ q, x 6 = .slice (some ⟨q, 0, none⟩) 1 1 ∧ w7.heap.size ≤ q ∧ Blk w' q #[.int .i64 k2, .int .i64 n2, .int .i64 s2, .string t2, .bool b2] 24 := h6
                      simp only [e92, e94, e96]
                      obtain ⟨W8, hW8⟩ : ∃ W8, W8 = w' := ⟨_, rfl⟩
                      subst hW8
                      have hw8 := hw7.trans (hb.mono hw7.size)
                      clear e92 e94 e96 x
                      replace BA := BA.below hb BA.lt
                      replace BC := BC.below hb BC.lt
                      clear hb kA kC x0 x1 x2 x3 x4 y0 y1 y2 y3 y4
                      have kA := BA.lt
                      have kC := BC.lt
                      obtain ⟨⟨x0, x1, x2, x3, x4⟩, -⟩ := BA.five
                      obtain ⟨⟨y0, y1, y2, y3, y4⟩, -⟩ := BC.five
                      go_wp2_with fail
                      refine region_steps 12 [some 106, some 107, some 108, some 109, some 110, some 111, some 112, some 113, some 105, some 114, some 115, some 16] (by kernel_rfl) (by kernel_rfl) ?_
                      -- 0: Op.move (Operand.tmp 9)
                      apply ls_val
                      · intro x w' hb hpre K hK
                        have hc := (bcell hb).1
                        clear hpre
                        simp only [frL, Act.put, List.setIfInBounds_toArray, List.set_cons_zero, List.set_cons_succ, Nat.zero_add, Nat.reduceAdd] at hK ⊢
                        have HK := Lib.hid hK
                        clear hK
                        refine Held.mk ?_
                        go_simp
                        exact HK.out _ (Below.refl _ _)
                      -- 1: Op.load 24 (Operand.tmp 7)
                      apply ls_val
                      · intro x w' hb hpre K hK
                        have hc := (bcell hb).1
                        clear hpre
                        simp only [frL, Act.put, List.setIfInBounds_toArray, List.set_cons_zero, List.set_cons_succ, Nat.zero_add, Nat.reduceAdd] at hK ⊢
                        have HK := Lib.hid hK
                        clear hK
                        refine Held.mk ?_
                        go_simp
                        exact HK.out _ (Below.refl _ _)
                      -- 2: Op.buildSlice 46 1 #[(0, Operand.tmp 107)]
                      refine ls_gen (.row W8.heap.size 1 #[.int .i64 k, .int .i64 n, .int .i64 s, .string t, .bool b] 24) ?_ ?_
                      · intro x w' hb hpre K hK
                        have p0 := hpre.1 rfl
                        clear hpre
                        simp [phi, MP.val] at p0
                        simp only [frL, Act.put, List.setIfInBounds_toArray, List.set_cons_zero, List.set_cons_succ, Nat.zero_add, Nat.reduceAdd, p0] at hK ⊢
                        have HK := Lib.hid hK
                        clear hK
                        refine Held.mk ?_
                        go_simp
                        exact HK.out _ _ ⟨_, rfl, hb.size, Blk.new _ _ _⟩ ((Below.refl _ _).alloc (Nat.le_refl _) _)
                      -- 3: Op.load 24 (Operand.tmp 8)
                      apply ls_val
                      · intro x w' hb hpre K hK
                        have hc := (bcell hb).1
                        clear hpre
                        simp only [frL, Act.put, List.setIfInBounds_toArray, List.set_cons_zero, List.set_cons_succ, Nat.zero_add, Nat.reduceAdd] at hK ⊢
                        have HK := Lib.hid hK
                        clear hK
                        refine Held.mk ?_
                        go_simp
                        exact HK.out _ (Below.refl _ _)
                      -- 4: Op.buildSlice 46 1 #[(0, Operand.tmp 109)]
                      refine ls_gen (.row W8.heap.size 1 #[.int .i64 k2, .int .i64 n2, .int .i64 s2, .string t2, .bool b2] 24) ?_ ?_
                      · intro x w' hb hpre K hK
                        have p0 := hpre.1 rfl
                        clear hpre
                        simp [phi, MP.val] at p0
                        simp only [frL, Act.put, List.setIfInBounds_toArray, List.set_cons_zero, List.set_cons_succ, Nat.zero_add, Nat.reduceAdd, p0] at hK ⊢
                        have HK := Lib.hid hK
                        clear hK
                        refine Held.mk ?_
                        go_simp
                        exact HK.out _ _ ⟨_, rfl, hb.size, Blk.new _ _ _⟩ ((Below.refl _ _).alloc (Nat.le_refl _) _)
                      -- 5: Op.move (Operand.tmp 2)
                      apply ls_val
                      · intro x w' hb hpre K hK
                        have hc := (bcell hb).1
                        clear hpre
                        simp only [frL, Act.put, List.setIfInBounds_toArray, List.set_cons_zero, List.set_cons_succ, Nat.zero_add, Nat.reduceAdd] at hK ⊢
                        have HK := Lib.hid hK
                        clear hK
                        refine Held.mk ?_
                        go_simp
                        exact HK.out _ (Below.refl _ _)
                      -- 6: Op.call { callee := Callee.builtin Builtin.append, args := #[Operand.tmp 110, Operand.tmp 
                      refine ls_gen (MPtr ((⟨k2, n2, s2, t2, b2⟩ : At) :: xs)) ?_ ?_
                      · intro x w' hb hpre K hK
                        have p0 := hpre.1 rfl
                        have p1 := hpre.2.1 rfl
                        clear hpre
                        simp [phi, MP.row] at p0
                        simp [phi, MP.val] at p1
                        obtain ⟨q9, hq9, -, hB9⟩ := p0
                        refine Held.mk (step_append_more ?_ (.tmp 110) (.tmp 111) ?_ q9 ⟨k2, n2, s2, t2, b2⟩ ?_ hB9 ad cap xs ?_ (HX.out.on (hw8.trans (hb.mono hw8.size))) hnil (by omega) ?_)
                        · rfl
                        · rfl
                        · simp only [frL, Act.put, List.setIfInBounds_toArray, List.set_cons_zero, List.set_cons_succ, Nat.zero_add, Nat.reduceAdd]
                          simp [Act.eval, hq9]
                        · simp only [frL, Act.put, List.setIfInBounds_toArray, List.set_cons_zero, List.set_cons_succ, Nat.zero_add, Nat.reduceAdd]
                          simp [Act.eval, p1]
                        · exact fun v w'' h1 h2 => hK v w'' h1 h2
                      -- 7: Op.call { callee := Callee.value (Operand.func 31), args := #[Operand.tmp 106, Operand.tmp
                      refine ls_val (v := .tuple #[.bool true, .int .i64 0]) ?_ ?_
                      · intro x w' hb hpre K hK
                        have p0 := hpre.1 rfl
                        have p1 := hpre.2.1 rfl
                        have p2 := hpre.2.2.1 rfl
                        clear hpre
                        simp [phi, MP.val] at p0
                        simp [phi, MP.row] at p1
                        obtain ⟨q6, h6, -, hB6⟩ := p1
                        obtain ⟨a4, c4, h4, hT4⟩ : ∃ a c, x 6 = .slice a (xs.length + 1) c ∧ TRow w' a (⟨k2, n2, s2, t2, b2⟩ :: xs) := p2
                        simp only [frL, Act.put, List.setIfInBounds_toArray, List.set_cons_zero, List.set_cons_succ, Nat.zero_add, Nat.reduceAdd, p0, h6, h4] at hK ⊢
                        have HK := Lib.hid hK
                        clear hK
                        refine Held.mk ?_
                        go_simp
                        with_reducible refine (C3.out (by simp) q6 a4 c4 w' (hw8.trans (hb.mono hw8.size)) hB6 hT4).mono ?_
                        rintro e w1 ⟨rfl, hb1⟩
                        dsimp only
                        exact HK.out _ hb1
                      -- 8: Op.move (Operand.tmp 113)
                      refine ls_val (v := .tuple #[.bool true, .int .i64 0]) ?_ ?_
                      · intro x w' hb hpre K hK
                        have p0 := hpre.1 rfl
                        clear hpre
                        simp [phi, MP.val] at p0
                        simp only [frL, Act.put, List.setIfInBounds_toArray, List.set_cons_zero, List.set_cons_succ, Nat.zero_add, Nat.reduceAdd, p0] at hK ⊢
                        have HK := Lib.hid hK
                        clear hK
                        refine Held.mk ?_
                        go_simp
                        exact HK.out _ (Below.refl _ _)
                      -- 9: Op.extract (Operand.tmp 105) 0
                      refine ls_val (v := .bool true) ?_ ?_
                      · intro x w' hb hpre K hK
                        have p0 := hpre.1 rfl
                        clear hpre
                        simp [phi, MP.val] at p0
                        simp only [frL, Act.put, List.setIfInBounds_toArray, List.set_cons_zero, List.set_cons_succ, Nat.zero_add, Nat.reduceAdd, p0] at hK ⊢
                        have HK := Lib.hid hK
                        clear hK
                        refine Held.mk ?_
                        go_simp
                        exact HK.out _ (Below.refl _ _)
                      -- 10: Op.extract (Operand.tmp 105) 1
                      refine ls_val (v := .int .i64 0) ?_ ?_
                      · intro x w' hb hpre K hK
                        have p0 := hpre.1 rfl
                        clear hpre
                        simp [phi, MP.val] at p0
                        simp only [frL, Act.put, List.setIfInBounds_toArray, List.set_cons_zero, List.set_cons_succ, Nat.zero_add, Nat.reduceAdd, p0] at hK ⊢
                        have HK := Lib.hid hK
                        clear hK
                        refine Held.mk ?_
                        go_simp
                        exact HK.out _ (Below.refl _ _)
                      -- 11: Op.assign (Operand.tmp 114)
                      refine ls_val (v := .bool true) ?_ ?_
                      · intro x w' hb hpre K hK
                        have p0 := hpre.1 rfl
                        clear hpre
                        simp [phi, MP.val] at p0
                        simp only [frL, Act.put, List.setIfInBounds_toArray, List.set_cons_zero, List.set_cons_succ, Nat.zero_add, Nat.reduceAdd, p0] at hK ⊢
                        have HK := Lib.hid hK
                        clear hK
                        refine Held.mk ?_
                        go_simp
                        exact HK.out _ (Below.refl _ _)
                      intro x w' hb hp
                      simp only [List.cons_append, List.nil_append, phis, MP.val, MP.box, MP.row, frL, Act.put, List.setIfInBounds_toArray, List.set_cons_zero, List.set_cons_succ, Nat.zero_add, Nat.reduceAdd] at hp ⊢
                      obtain ⟨h0, h1, h2, h3, h4, h5, h6, h7, h8, h9, h10, h11, -⟩ := hp
                      simp only [h0, h1, h3, h5, h7, h8, h9, h10, h11]
                      clear h0 h1 h3 h5 h7 h8 h9 h10 h11
                      obtain ⟨q92, e92, -, -⟩ : ∃ q, x 2 = .slice (some ⟨q, 0, none⟩) 1 1 ∧ W8.heap.size ≤ q ∧ Blk w' q #[.int .i64 k, .int .i64 n, .int .i64 s, .string t, .bool b] 24 := h2
                      obtain ⟨q94, e94, -, -⟩ : ∃ q, x 4 = .slice (some ⟨q, 0, none⟩) 1 1 ∧ W8.heap.size ≤ q ∧ Blk w' q #[.int .i64 k2, .int .i64 n2, .int .i64 s2, .string t2, .bool b2] 24 := h4
                      obtain ⟨a96, c96, e96, -⟩ : ∃ a c, x 6 = .slice a (xs.length + 1) c ∧ TRow w' a (⟨k2, n2, s2, t2, b2⟩ :: xs) := h6
                      simp only [e92, e94, e96]
                      have hw9 := hw8.trans (hb.mono hw8.size)
                      clear e92 e94 e96 kA kC x0 x1 x2 x3 x4 y0 y1 y2 y3 y4 BA BC
                      go_wp2_with fail
                      exact bodyPost_ret (v := .bool true) (by simp [results, Tryz.results10, go_sem]) rfl ⟨rfl, hw9⟩
                  ·
                    go_wp2_with fail
                    exact bodyPost_ret (v := .bool true) (by simp [results, Tryz.results10, go_sem]) rfl ⟨rfl, hw7⟩
            ·
              go_wp2_with fail
              with_reducible refine (CA.out _ hw5).mono ?_
              rintro e wz ⟨rfl, hb⟩
              have hwz : Below w.heap.size w wz := Below.trans hw5 (hb.mono (by have := hw5.size; simp <;> omega))
              clear hb kA kC x0 x1 x2 x3 x4 y0 y1 y2 y3 y4
              go_wp2_with fail
              exact bodyPost_ret (v := .bool true) (by simp [results, Tryz.results10, go_sem]) rfl ⟨rfl, hwz⟩
          ·
            go_wp2_with fail
            with_reducible refine (CA.out _ hw5).mono ?_
            rintro e wz ⟨rfl, hb⟩
            have hwz : Below w.heap.size w wz := Below.trans hw5 (hb.mono (by have := hw5.size; simp <;> omega))
            clear hb kA kC x0 x1 x2 x3 x4 y0 y1 y2 y3 y4
            go_wp2_with fail
            exact bodyPost_ret (v := .bool true) (by simp [results, Tryz.results10, go_sem]) rfl ⟨rfl, hwz⟩
        ·
          go_wp2_with fail
          with_reducible refine (CA.out _ hw5).mono ?_
          rintro e wz ⟨rfl, hb⟩
          have hwz : Below w.heap.size w wz := Below.trans hw5 (hb.mono (by have := hw5.size; simp <;> omega))
          clear hb kA kC x0 x1 x2 x3 x4 y0 y1 y2 y3 y4
          go_wp2_with fail
          exact bodyPost_ret (v := .bool true) (by simp [results, Tryz.results10, go_sem]) rfl ⟨rfl, hwz⟩
end Go.Proofs.YtaoobajokhcimaaGreatDoor

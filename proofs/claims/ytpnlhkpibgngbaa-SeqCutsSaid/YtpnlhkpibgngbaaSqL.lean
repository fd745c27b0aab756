/- SeqCuts returns true and keeps what was there, for every row, places and what is put in. -/
import Derived.Test.YtpnlhkpibgngbaaSqK
set_option linter.unusedSimpArgs false
set_option linter.unusedVariables false
set_option linter.constructorNameAsVariable false
namespace Go.Proofs.Ytpnlhkpibgngbaa
open Go.RowKit Go.Sort

set_option maxRecDepth 100000 in
set_option maxHeartbeats 20000000 in
theorem cuts_any (al am : Option Addr) (n cl m cm : Nat) (xs ys : List Int) (a b : Int) (w : World) (h : n ≤ 500 → IRow w al n xs) (hy : m ≤ 500 → IRow w am m ys) (hn0 : al = none → cl = 0) (h0 : am = none → cm = 0)
    (hcl : n ≤ cl) (hcl2 : cl ≤ 9223372036854775807) (ha : -9223372036854775808 ≤ a) (hb : b ≤ 9223372036854775807) :
    Calls Try.prog 5 #[.slice al n cl, .agg #[.int .i64 a, .int .i64 b, .slice am m cm]] w fun e w' => e = .returned (.bool true) ∧ Below w.heap.size w w' := by
  go_enter Try.func5, Try.ntmps5
  go_wp2_with fail
  refine (sawake_any _).mono ?_
  rintro e w1 ⟨rfl, b1⟩
  have k1 : Below w.heap.size w w1 := ((Below.refl _ _).alloc (Nat.le_refl _) _).trans (b1.mono (by simp))
  have l1 : w.heap.size < w1.heap.size := by have := b1.size; simp at this; omega
  have hc1 := (bcell b1).1
  have A0 : w1.cell? ⟨w.heap.size, 0, none⟩ = some (.int .i64 a) := by rw [hc1 _ _ (by simp)]; simp [go_sem]
  have A1 : w1.cell? ⟨w.heap.size, 1, none⟩ = some (.int .i64 b) := by rw [hc1 _ _ (by simp)]; simp [go_sem]
  have A2 : w1.cell? ⟨w.heap.size, 2, none⟩ = some (.slice am m cm) := by rw [hc1 _ _ (by simp)]; simp [go_sem]
  clear hc1 b1
  have HN := Lib.hid h
  have HM := Lib.hid hy
  have H0 := Lib.hid h0
  have HN0 := Lib.hid hn0
  clear h hy h0 hn0
  by_cases g1 : 500 < n
  · have g1' : (500 : Int) < (n : Int) := by omega
    go_wp2_with fail
    refine (sawake_any _).mono ?_
    rintro e w2 ⟨rfl, b2⟩
    go_wp2_with fail
    go_light
    go_ret
    exact ⟨rfl, k1.trans (b2.mono k1.size)⟩
  by_cases g2 : 500 < m
  · have g1' : (n : Int) ≤ 500 := by omega
    have g2' : (500 : Int) < (m : Int) := by omega
    go_wp2_with fail
    refine (sawake_any _).mono ?_
    rintro e w2 ⟨rfl, b2⟩
    go_wp2_with fail
    go_light
    go_ret
    exact ⟨rfl, k1.trans (b2.mono k1.size)⟩
  have g1' : (n : Int) ≤ 500 := by omega
  have g2' : (m : Int) ≤ 500 := by omega
  have hX := HN.out (by omega)
  have hY := HM.out (by omega)
  obtain rfl := hX.1
  obtain rfl := hY.1
  have X := Lib.hid (hX.below k1 (Nat.le_refl _))
  have Y := Lib.hid (hY.below k1 (Nat.le_refl _))
  clear hX hY HN HM
  go_wp2_with fail
  refine region_parts (by kernel_rfl) fun wc hwc => ?_
  refine partX_steps w1 0 7 [some 24, some 25, some 26, some 27, some 28, some 29, some 30] [] hwc (by kernel_rfl) (by kernel_rfl) ?_
  clear hwc wc
  refine px_gen (.of (.row w1.heap.size 0 #[] 3)) rfl ?_ ?_
  · intro x w' hb hpre K hK
    have hc := (bcell hb).1
    clear hpre
    simp only [frL, Act.put, List.setIfInBounds_toArray, List.set_cons_zero, List.set_cons_succ, Nat.zero_add, Nat.reduceAdd] at hK ⊢
    have HK := Lib.hid hK
    clear hK
    refine Held.mk ?_
    go_simp
    exact HK.out _ _ ⟨_, rfl, hb.size, Blk.new _ _ _⟩ ((Below.refl _ _).alloc (Nat.le_refl _) _)
  apply px_val rfl
  · intro x w' hb hpre K hK
    have hc := (bcell hb).1
    clear hpre
    simp only [frL, Act.put, List.setIfInBounds_toArray, List.set_cons_zero, List.set_cons_succ, Nat.zero_add, Nat.reduceAdd] at hK ⊢
    have HK := Lib.hid hK
    clear hK
    refine Held.mk ?_
    go_simp
    exact HK.out _ (Below.refl _ _)
  refine px_gen (.of (.own w1.heap.size xs)) rfl ?_ ?_
  · intro x w' hb hpre K hK
    simp [predsX, Region.binds, phiX, MX.val, MX.of, MX.any, MP.val, MP.row, MP.own, MP.any, MX.c2, MX.c3, MX.c4, MX.quad, decide_true, decide_false, List.getElem?_cons_zero, List.getElem?_cons_succ, Option.getD_some] at hpre
    obtain ⟨⟨q, hq, hqb, hqB⟩, hrest⟩ := hpre
    simp only [frL, Act.put, List.setIfInBounds_toArray, List.set_cons_zero, List.set_cons_succ, Nat.zero_add, Nat.reduceAdd, hq, hrest] at hK ⊢
    obtain ⟨v', w'', hr, hO, hbb⟩ := app_fresh w' w1.heap.size q hqB hqb al xs.length cl xs (X.out.below hb (Nat.le_refl _)) HN0.out (by omega)
    refine Held.mk ?_
    apply step_app
    case hop => rfl
    case hr => exact hr
    case hg => rfl
    case hd => rfl
    case hx => rfl
    case hT => rfl
    case hK => exact hK _ _ hO hbb
  refine px_gen (.of (.row w1.heap.size 0 #[] 3)) rfl ?_ ?_
  · intro x w' hb hpre K hK
    have hc := (bcell hb).1
    clear hpre
    simp only [frL, Act.put, List.setIfInBounds_toArray, List.set_cons_zero, List.set_cons_succ, Nat.zero_add, Nat.reduceAdd] at hK ⊢
    have HK := Lib.hid hK
    clear hK
    refine Held.mk ?_
    go_simp
    exact HK.out _ _ ⟨_, rfl, hb.size, Blk.new _ _ _⟩ ((Below.refl _ _).alloc (Nat.le_refl _) _)
  apply px_val rfl
  · intro x w' hb hpre K hK
    have hc := (bcell hb).1
    clear hpre
    simp only [frL, Act.put, List.setIfInBounds_toArray, List.set_cons_zero, List.set_cons_succ, Nat.zero_add, Nat.reduceAdd] at hK ⊢
    have HK := Lib.hid hK
    clear hK
    refine Held.mk ?_
    go_simp
    exact HK.out _ (Below.refl _ _)
  apply px_val rfl
  · intro x w' hb hpre K hK
    have hc := (bcell hb).1
    simp [predsX, Region.binds, phiX, MX.val, MX.of, MX.any, MP.val, MP.row, MP.own, MP.any, MX.c2, MX.c3, MX.c4, MX.quad, decide_true, decide_false, List.getElem?_cons_zero, List.getElem?_cons_succ, Option.getD_some] at hpre
    simp only [frL, Act.put, List.setIfInBounds_toArray, List.set_cons_zero, List.set_cons_succ, Nat.zero_add, Nat.reduceAdd, hpre] at hK ⊢
    have HK := Lib.hid hK
    clear hK
    refine Held.mk ?_
    go_simp
    exact HK.out _ (Below.refl _ _)
  refine px_gen (.of (.own w1.heap.size ys)) rfl ?_ ?_
  · intro x w' hb hpre K hK
    simp [predsX, Region.binds, phiX, MX.val, MX.of, MX.any, MP.val, MP.row, MP.own, MP.any, MX.c2, MX.c3, MX.c4, MX.quad, decide_true, decide_false, List.getElem?_cons_zero, List.getElem?_cons_succ, Option.getD_some] at hpre
    obtain ⟨⟨q, hq, hqb, hqB⟩, hrest⟩ := hpre
    simp only [frL, Act.put, List.setIfInBounds_toArray, List.set_cons_zero, List.set_cons_succ, Nat.zero_add, Nat.reduceAdd, hq, hrest] at hK ⊢
    obtain ⟨v', w'', hr, hO, hbb⟩ := app_fresh w' w1.heap.size q hqB hqb am ys.length cm ys (Y.out.below hb (Nat.le_refl _)) H0.out (by omega)
    refine Held.mk ?_
    apply step_app
    case hop => rfl
    case hr => exact hr
    case hg => rfl
    case hd => rfl
    case hx => rfl
    case hT => rfl
    case hK => exact hK _ _ hO hbb
  intro x w3 hb3 hp
  simp only [List.cons_append, List.nil_append, phisX, MX.val, MX.of, MP.val, MP.row, MP.own, frL, Act.put, List.setIfInBounds_toArray, List.set_cons_zero, List.set_cons_succ, Nat.zero_add, Nat.reduceAdd] at hp ⊢
  obtain ⟨⟨q0, h0, -, -⟩, h1, h2, ⟨q3, h3, -, -⟩, h4, h5, h6, -⟩ := hp
  simp only [h0, h1, h3, h4, h5]
  clear h0 h1 h3 h4 h5
  generalize x 2 = vx at *
  generalize x 6 = vy at *
  clear x
  obtain ⟨ax, cx, rfl, IX, hcx⟩ := h2.irow (by omega)
  obtain ⟨ay, cy, rfl, IY, -⟩ := h6.irow (by omega)
  have hc3 := (bcell hb3).1
  rw [← hc3 _ _ l1] at A0 A1 A2
  have l3 : w.heap.size < w3.heap.size := by have := hb3.size; omega
  have k3 : Below w.heap.size w w3 := k1.trans (hb3.mono k1.size)
  have X3 := Lib.hid (X.out.below hb3 (Nat.le_refl _))
  have Y3 := Lib.hid (Y.out.below hb3 (Nat.le_refl _))
  have OX := Lib.hid h2
  have OY := Lib.hid h6
  have JX := Lib.hid IX
  have JY := Lib.hid IY
  clear h2 h6 IX IY X Y hc3 l1 k1
  refine parts_tail (by kernel_rfl) ?_
  go_wp2_with fail
  have PY : PRow w3 w3.heap.size ay ys := fun hp0 => by
    rcases OY.out.cases with ⟨he, hl⟩ | ⟨g, cap, cur, he, hg1, hg2, hg3, hg4, hg5, hg6⟩
    · subst hl; simp at hp0
    · cases he
      exact ⟨g, cur, rfl, Blk.lt (show Blk w3 g cur 3 from hg2), hg2, hg6⟩
  have PYh := Lib.hid PY
  clear PY hb3
  refine region_parts (by kernel_rfl) fun wc hwc => ?_
  refine partX_steps w3 0 18 [some 31, some 32, some 33, some 34, some 35, some 36, some 37, some 38, some 39, some 40, some 41, some 42, some 43, some 44, some 45, some 46, some 47, some 48] [[], [], [], [], [], [1], [], [], [], [], [1, 5], [], [], [], [], [], [1, 5, 10], [1, 5, 10, 16]] hwc (by kernel_rfl) (by kernel_rfl) ?_
  clear hwc wc
  apply px_val rfl
  · intro x w' hb hpre K hK
    have hc := (bcell hb).1
    clear hpre
    simp only [frL, Act.put, List.setIfInBounds_toArray, List.set_cons_zero, List.set_cons_succ, Nat.zero_add, Nat.reduceAdd] at hK ⊢
    have HK := Lib.hid hK
    clear hK
    refine Held.mk ?_
    go_simp
    exact HK.out _ (Below.refl _ _)
  refine px_gen (MX.of (.own w3.heap.size (resF xs ys a b 0))) rfl ?_ ?_
  · intro x w' hb hpre K hK
    simp [predsX, Region.binds, phiX, MX.val, MX.of, MX.any, MP.val, MP.row, MP.own, MP.any, MX.c2, MX.c3, MX.c4, MX.quad, decide_true, decide_false, List.getElem?_cons_zero, List.getElem?_cons_succ, Option.getD_some] at hpre
    have hv0 := hpre
    simp only [frL, Act.put, List.setIfInBounds_toArray, List.set_cons_zero, List.set_cons_succ, Nat.zero_add, Nat.reduceAdd, hv0] at hK ⊢
    have HK := Lib.hid hK
    clear hK
    refine Held.mk ?_
    go_simp
    refine (seqrev_any _ _ _ xs _ (JX.out.below hb (Nat.le_refl _)) (by omega)).mono ?_
    rintro e w4 ⟨v, rfl, hO, hb1⟩
    dsimp only
    exact HK.out _ _ (hO.mono hb.size) hb1
  apply px_val rfl
  · intro x w' hb hpre K hK
    have hc := (bcell hb).1
    clear hpre
    simp only [frL, Act.put, List.setIfInBounds_toArray, List.set_cons_zero, List.set_cons_succ, Nat.zero_add, Nat.reduceAdd] at hK ⊢
    have HK := Lib.hid hK
    clear hK
    refine Held.mk ?_
    go_simp
    exact HK.out _ (Below.refl _ _)
  apply px_val rfl
  · intro x w' hb hpre K hK
    have hc := (bcell hb).1
    clear hpre
    simp only [frL, Act.put, List.setIfInBounds_toArray, List.set_cons_zero, List.set_cons_succ, Nat.zero_add, Nat.reduceAdd] at hK ⊢
    have HK := Lib.hid hK
    clear hK
    refine Held.mk ?_
    go_simp
    exact HK.out _ (Below.refl _ _)
  apply px_val rfl
  · intro x w' hb hpre K hK
    have hc := (bcell hb).1
    simp [predsX, Region.binds, phiX, MX.val, MX.of, MX.any, MP.val, MP.row, MP.own, MP.any, MX.c2, MX.c3, MX.c4, MX.quad, decide_true, decide_false, List.getElem?_cons_zero, List.getElem?_cons_succ, Option.getD_some] at hpre
    simp only [frL, Act.put, List.setIfInBounds_toArray, List.set_cons_zero, List.set_cons_succ, Nat.zero_add, Nat.reduceAdd, hpre] at hK ⊢
    have HK := Lib.hid hK
    clear hK
    refine Held.mk ?_
    go_simp
    exact HK.out _ (Below.refl _ _)
  refine px_gen (MX.c2 w3.heap.size (resF xs ys a b)) rfl ?_ ?_
  · intro x w' hb hpre K hK
    simp [predsX, Region.binds, phiX, MX.val, MX.of, MX.any, MP.val, MP.row, MP.own, MP.any, MX.c2, MX.c3, MX.c4, MX.quad, decide_true, decide_false, List.getElem?_cons_zero, List.getElem?_cons_succ, Option.getD_some] at hpre
    obtain ⟨hv2, hv4, hC⟩ := hpre
    simp only [frL, Act.put, List.setIfInBounds_toArray, List.set_cons_zero, List.set_cons_succ, Nat.zero_add, Nat.reduceAdd, hv2, hv4] at hK ⊢
    have HK := Lib.hid hK
    clear hK
    refine Held.mk ?_
    go_simp
    refine (seqrem_any _ _ _ _ xs _ (JX.out.below hb (Nat.le_refl _)) (by omega)).mono ?_
    rintro e w4 ⟨v, rfl, hO, hb1⟩
    dsimp only
    exact HK.out _ _ (Ch1.next hC hb1 hb.size hO) hb1
  apply px_val rfl
  · intro x w' hb hpre K hK
    have hc := (bcell hb).1
    clear hpre
    simp only [frL, Act.put, List.setIfInBounds_toArray, List.set_cons_zero, List.set_cons_succ, Nat.zero_add, Nat.reduceAdd] at hK ⊢
    have HK := Lib.hid hK
    clear hK
    refine Held.mk ?_
    go_simp
    exact HK.out _ (Below.refl _ _)
  apply px_val rfl
  · intro x w' hb hpre K hK
    have hc := (bcell hb).1
    clear hpre
    simp only [frL, Act.put, List.setIfInBounds_toArray, List.set_cons_zero, List.set_cons_succ, Nat.zero_add, Nat.reduceAdd] at hK ⊢
    have HK := Lib.hid hK
    clear hK
    refine Held.mk ?_
    go_simp
    exact HK.out _ (Below.refl _ _)
  apply px_val rfl
  · intro x w' hb hpre K hK
    have hc := (bcell hb).1
    simp [predsX, Region.binds, phiX, MX.val, MX.of, MX.any, MP.val, MP.row, MP.own, MP.any, MX.c2, MX.c3, MX.c4, MX.quad, decide_true, decide_false, List.getElem?_cons_zero, List.getElem?_cons_succ, Option.getD_some] at hpre
    simp only [frL, Act.put, List.setIfInBounds_toArray, List.set_cons_zero, List.set_cons_succ, Nat.zero_add, Nat.reduceAdd, hpre] at hK ⊢
    have HK := Lib.hid hK
    clear hK
    refine Held.mk ?_
    go_simp
    exact HK.out _ (Below.refl _ _)
  apply px_val rfl
  · intro x w' hb hpre K hK
    have hc := (bcell hb).1
    clear hpre
    simp only [frL, Act.put, List.setIfInBounds_toArray, List.set_cons_zero, List.set_cons_succ, Nat.zero_add, Nat.reduceAdd] at hK ⊢
    have HK := Lib.hid hK
    clear hK
    refine Held.mk ?_
    go_simp
    exact HK.out _ (Below.refl _ _)
  refine px_gen (MX.c3 w3.heap.size (resF xs ys a b)) rfl ?_ ?_
  · intro x w' hb hpre K hK
    simp [predsX, Region.binds, phiX, MX.val, MX.of, MX.any, MP.val, MP.row, MP.own, MP.any, MX.c2, MX.c3, MX.c4, MX.quad, decide_true, decide_false, List.getElem?_cons_zero, List.getElem?_cons_succ, Option.getD_some] at hpre
    obtain ⟨hv6, hv8, hv9, hC⟩ := hpre
    simp only [frL, Act.put, List.setIfInBounds_toArray, List.set_cons_zero, List.set_cons_succ, Nat.zero_add, Nat.reduceAdd, hv6, hv8, hv9] at hK ⊢
    have HK := Lib.hid hK
    clear hK
    refine Held.mk ?_
    go_simp
    refine (seqins_any _ _ _ _ _ _ _ xs ys _ (JX.out.below hb (Nat.le_refl _)) (by omega) rfl (by omega) (fun hp0 => by obtain ⟨vb, cur, e1, e2, e3, e4⟩ := PYh.out hp0; exact ⟨vb, cur, e1, by have := hb.size; omega, by rw [hb.block vb e2, e3], e4⟩)).mono ?_
    rintro e w4 ⟨v, rfl, hO, hb1⟩
    dsimp only
    exact HK.out _ _ (Ch2.next hC hb1 hb.size hO) hb1
  apply px_val rfl
  · intro x w' hb hpre K hK
    have hc := (bcell hb).1
    clear hpre
    simp only [frL, Act.put, List.setIfInBounds_toArray, List.set_cons_zero, List.set_cons_succ, Nat.zero_add, Nat.reduceAdd] at hK ⊢
    have HK := Lib.hid hK
    clear hK
    refine Held.mk ?_
    go_simp
    exact HK.out _ (Below.refl _ _)
  apply px_val rfl
  · intro x w' hb hpre K hK
    have hc := (bcell hb).1
    clear hpre
    simp only [frL, Act.put, List.setIfInBounds_toArray, List.set_cons_zero, List.set_cons_succ, Nat.zero_add, Nat.reduceAdd] at hK ⊢
    have HK := Lib.hid hK
    clear hK
    refine Held.mk ?_
    go_simp
    exact HK.out _ (Below.refl _ _)
  apply px_val rfl
  · intro x w' hb hpre K hK
    have hc := (bcell hb).1
    simp [predsX, Region.binds, phiX, MX.val, MX.of, MX.any, MP.val, MP.row, MP.own, MP.any, MX.c2, MX.c3, MX.c4, MX.quad, decide_true, decide_false, List.getElem?_cons_zero, List.getElem?_cons_succ, Option.getD_some] at hpre
    simp only [frL, Act.put, List.setIfInBounds_toArray, List.set_cons_zero, List.set_cons_succ, Nat.zero_add, Nat.reduceAdd, hpre] at hK ⊢
    have HK := Lib.hid hK
    clear hK
    refine Held.mk ?_
    go_simp
    exact HK.out _ (Below.refl _ _)
  apply px_val rfl
  · intro x w' hb hpre K hK
    have hc := (bcell hb).1
    clear hpre
    simp only [frL, Act.put, List.setIfInBounds_toArray, List.set_cons_zero, List.set_cons_succ, Nat.zero_add, Nat.reduceAdd] at hK ⊢
    have HK := Lib.hid hK
    clear hK
    refine Held.mk ?_
    go_simp
    exact HK.out _ (Below.refl _ _)
  apply px_val rfl
  · intro x w' hb hpre K hK
    have hc := (bcell hb).1
    simp [predsX, Region.binds, phiX, MX.val, MX.of, MX.any, MP.val, MP.row, MP.own, MP.any, MX.c2, MX.c3, MX.c4, MX.quad, decide_true, decide_false, List.getElem?_cons_zero, List.getElem?_cons_succ, Option.getD_some] at hpre
    simp only [frL, Act.put, List.setIfInBounds_toArray, List.set_cons_zero, List.set_cons_succ, Nat.zero_add, Nat.reduceAdd, hpre] at hK ⊢
    have HK := Lib.hid hK
    clear hK
    refine Held.mk ?_
    go_simp
    exact HK.out _ (Below.refl _ _)
  refine px_gen (MX.c4 w3.heap.size (resF xs ys a b)) rfl ?_ ?_
  · intro x w' hb hpre K hK
    simp [predsX, Region.binds, phiX, MX.val, MX.of, MX.any, MP.val, MP.row, MP.own, MP.any, MX.c2, MX.c3, MX.c4, MX.quad, decide_true, decide_false, List.getElem?_cons_zero, List.getElem?_cons_succ, Option.getD_some] at hpre
    obtain ⟨hv11, hv13, hv15, hC⟩ := hpre
    simp only [frL, Act.put, List.setIfInBounds_toArray, List.set_cons_zero, List.set_cons_succ, Nat.zero_add, Nat.reduceAdd, hv11, hv13, hv15] at hK ⊢
    have HK := Lib.hid hK
    clear hK
    refine Held.mk ?_
    go_simp
    refine (seqpart_any _ _ _ _ _ xs _ (JX.out.below hb (Nat.le_refl _)) (by omega) hcx (by omega) (by omega)).mono ?_
    rintro e w4 ⟨v, rfl, hO, hb1⟩
    dsimp only
    exact HK.out _ _ (Ch3.next hC hb1 hb.size hO) hb1
  refine px_gen (MX.quad w3.heap.size (resF xs ys a b)) rfl ?_ ?_
  · intro x w' hb hpre K hK
    simp [predsX, Region.binds, phiX, MX.val, MX.of, MX.any, MP.val, MP.row, MP.own, MP.any, MX.c2, MX.c3, MX.c4, MX.quad, decide_true, decide_false, List.getElem?_cons_zero, List.getElem?_cons_succ, Option.getD_some] at hpre
    have hC : Ch4 w' w3.heap.size (resF xs ys a b) (x 1) (x 5) (x 10) (x 16) := by first | exact hpre | exact hpre.2.2.2 | exact hpre.2.2
    obtain ⟨a0, c0, e0, -, -⟩ := ORow.irow hC.1.1.1 (by have := resF_len xs ys a b 0; omega)
    obtain ⟨a1, c1, e1, -, -⟩ := ORow.irow hC.1.1.2.1 (by have := resF_len xs ys a b 1; omega)
    obtain ⟨a2, c2, e2, -, -⟩ := ORow.irow hC.1.2.1 (by have := resF_len xs ys a b 2; omega)
    obtain ⟨a3, c3, e3, -, -⟩ := ORow.irow hC.2.1 (by have := resF_len xs ys a b 3; omega)
    have hQ : Quad (w'.alloc (.cells #[.slice a0 (resF xs ys a b 0).length c0, .slice a1 (resF xs ys a b 1).length c1, .slice a2 (resF xs ys a b 2).length c2, .slice a3 (resF xs ys a b 3).length c3] 33)) w3.heap.size (resF xs ys a b) (x 1) (x 5) (x 10) (x 16) (.slice (some ⟨w'.heap.size, 0, none⟩) 4 4) := by
      have hh := hC.quad hb.size
      rw [e0, e1, e2, e3] at hh ⊢
      exact hh
    have HQ := Lib.hid hQ
    have HK := Lib.hid hK
    clear hK hQ hC hpre
    simp only [frL, Act.put, List.setIfInBounds_toArray, List.set_cons_zero, List.set_cons_succ, Nat.zero_add, Nat.reduceAdd, e0, e1, e2, e3] at HK ⊢
    refine Held.mk ?_
    go_simp
    exact HK.out _ _ HQ.out ((Below.refl _ _).alloc (Nat.le_refl _) _)
  intro x w4 hb4 hp
  simp only [List.cons_append, List.nil_append, phisX, MX.val, MX.of, MP.val, MP.own, MX.c2, MX.c3, MX.c4, MX.quad, frL, Act.put, List.setIfInBounds_toArray, List.set_cons_zero, List.set_cons_succ, Nat.zero_add, Nat.reduceAdd] at hp ⊢
  obtain ⟨h0, -, h2, h3, h4, -, h6, h7, h8, h9, -, h11, h12, h13, h14, h15, -, hQ, -⟩ := hp
  obtain ⟨hC, q, h17, hqM, hqB, p0, p1, p2, p3⟩ := hQ
  simp only [h0, h2, h3, h4, h6, h7, h8, h9, h11, h12, h13, h14, h15, h17]
  clear h0 h2 h3 h4 h6 h7 h8 h9 h11 h12 h13 h14 h15 h17
  generalize x 1 = u0 at *
  generalize x 5 = u1 at *
  generalize x 10 = u2 at *
  generalize x 16 = u3 at *
  clear x
  obtain ⟨V, hV0, hV1, hV2, hV3⟩ : ∃ V : Nat → Value, V 0 = u0 ∧ V 1 = u1 ∧ V 2 = u2 ∧ V 3 = u3 := ⟨fun k => if k = 0 then u0 else if k = 1 then u1 else if k = 2 then u2 else u3, rfl, rfl, rfl, rfl⟩
  have rows0 : ∀ k, k < 4 → ORow w4 w3.heap.size (V k) (resF xs ys a b k) := fun k hk => by
    have : k = 0 ∨ k = 1 ∨ k = 2 ∨ k = 3 := by omega
    rcases this with rfl | rfl | rfl | rfl
    · rw [hV0]; exact hC.1.1.1
    · rw [hV1]; exact hC.1.1.2.1
    · rw [hV2]; exact hC.1.2.1
    · rw [hV3]; exact hC.2.1
  have aparts : ∀ k k', k < k' → k' < 4 → apart (V k) (V k') := fun k k' h1 h2 => by
    have : (k = 0 ∧ k' = 1) ∨ (k = 0 ∧ k' = 2) ∨ (k = 0 ∧ k' = 3) ∨ (k = 1 ∧ k' = 2) ∨ (k = 1 ∧ k' = 3) ∨ (k = 2 ∧ k' = 3) := by omega
    rcases this with ⟨rfl, rfl⟩ | ⟨rfl, rfl⟩ | ⟨rfl, rfl⟩ | ⟨rfl, rfl⟩ | ⟨rfl, rfl⟩ | ⟨rfl, rfl⟩
    · rw [hV0, hV1]; exact hC.1.1.2.2
    · rw [hV0, hV2]; exact hC.1.2.2.1
    · rw [hV0, hV3]; exact hC.2.2.1
    · rw [hV1, hV2]; exact hC.1.2.2.2
    · rw [hV1, hV3]; exact hC.2.2.2.1
    · rw [hV2, hV3]; exact hC.2.2.2.2
  have apartq : ∀ k, k < 4 → apart (V k) (.slice (some ⟨q, 0, none⟩) 4 4) := fun k hk => by
    have : k = 0 ∨ k = 1 ∨ k = 2 ∨ k = 3 := by omega
    rcases this with rfl | rfl | rfl | rfl
    · rw [hV0]; exact p0
    · rw [hV1]; exact p1
    · rw [hV2]; exact p2
    · rw [hV3]; exact p3
  have cellq : ∀ k, k < 4 → (#[u0, u1, u2, u3] : Array Value)[k]? = some (V k) := fun k hk => by
    have : k = 0 ∨ k = 1 ∨ k = 2 ∨ k = 3 := by omega
    rcases this with rfl | rfl | rfl | rfl
    · rw [hV0]; rfl
    · rw [hV1]; rfl
    · rw [hV2]; rfl
    · rw [hV3]; rfl
  clear hV0 hV1 hV2 hV3 hC p0 p1 p2 p3
  have RW := Lib.hid rows0
  have AP := Lib.hid aparts
  have AQ := Lib.hid apartq
  have CQ := Lib.hid cellq
  clear rows0 aparts apartq cellq
  generalize #[u0, u1, u2, u3] = qs at *
  refine parts_tail (by kernel_rfl) ?_
  go_wp2_with fail
  go_loopg [8] 5 (fun m ii wr => ∃ i : Nat, i ≤ 4 ∧ m + i = 5 ∧ ii = .int .i64 i ∧ Below w3.heap.size w3 wr ∧ Blk wr q qs 33 ∧ ∀ k, i ≤ k → k < 4 → ORow wr w3.heap.size (V k) (resF xs ys a b k))
  case atStart => exact ⟨0, by omega, by omega, rfl, hb4, hqB, fun k _ hk => RW.out k hk⟩
  case round =>
    obtain ⟨i, hi, hmi, rfl, hw, hQ, hrows⟩ := hrel
    have HR := Lib.hid hrows
    clear hrows hqB RW
    have hcr := (bcell hw).1
    have a0 : wr.cell? ⟨w.heap.size, 0, none⟩ = some (.int .i64 a) := by rw [hcr _ _ l3]; exact A0
    have a1 : wr.cell? ⟨w.heap.size, 1, none⟩ = some (.int .i64 b) := by rw [hcr _ _ l3]; exact A1
    have a2 : wr.cell? ⟨w.heap.size, 2, none⟩ = some (.slice am ys.length cm) := by rw [hcr _ _ l3]; exact A2
    have lr : w.heap.size < wr.heap.size := by have := hw.size; omega
    clear hcr
    by_cases hi4 : i < 4
    · have lq := hQ.lt
      obtain ⟨ai, ci, hVi, hIi, hci⟩ := (HR.out i (Nat.le_refl _) hi4).irow (by have := resF_len xs ys a b i; omega)
      have zq : wr.cell? ⟨q, i, none⟩ = some (.slice ai (resF xs ys a b i).length ci) := by rw [hQ.cell, CQ.out i hi4, hVi]
      have j0 : (0 : Int) ≤ (i : Int) := Int.natCast_nonneg _
      have j1 : (i : Int) < 4 := by omega
      have XR := Lib.hid (X3.out.below hw (Nat.le_refl _))
      have YR := Lib.hid (Y3.out.below hw (Nat.le_refl _))
      have HI := Lib.hid hIi
      clear hIi
      go_wp2_with fail
      refine region_parts (by kernel_rfl) fun wc hwc => ?_
      refine partX_steps wr 0 15 [some 53, some 54, some 55, some 56, some 57, some 58, some 59, some 60, some 61, some 62, some 63, some 64, some 65, some 66, some 67] [] hwc (by kernel_rfl) (by kernel_rfl) ?_
      clear hwc wc
      apply px_val rfl
      · intro x w' hb hpre K hK
        have hc := (bcell hb).1
        clear hpre
        simp only [frL, Act.put, List.setIfInBounds_toArray, List.set_cons_zero, List.set_cons_succ, Nat.zero_add, Nat.reduceAdd] at hK ⊢
        have HK := Lib.hid hK
        clear hK
        refine Held.mk ?_
        go_simp
        exact HK.out _ (Below.refl _ _)
      apply px_val rfl
      · intro x w' hb hpre K hK
        have hc := (bcell hb).1
        clear hpre
        simp only [frL, Act.put, List.setIfInBounds_toArray, List.set_cons_zero, List.set_cons_succ, Nat.zero_add, Nat.reduceAdd] at hK ⊢
        have HK := Lib.hid hK
        clear hK
        refine Held.mk ?_
        go_simp
        exact HK.out _ (Below.refl _ _)
      apply px_val rfl
      · intro x w' hb hpre K hK
        have hc := (bcell hb).1
        simp [predsX, Region.binds, phiX, MX.val, MX.of, MX.any, MP.val, MP.row, MP.own, MP.any, MX.c2, MX.c3, MX.c4, MX.quad, decide_true, decide_false, List.getElem?_cons_zero, List.getElem?_cons_succ, Option.getD_some] at hpre
        simp only [frL, Act.put, List.setIfInBounds_toArray, List.set_cons_zero, List.set_cons_succ, Nat.zero_add, Nat.reduceAdd, hpre] at hK ⊢
        have HK := Lib.hid hK
        clear hK
        refine Held.mk ?_
        go_simp
        exact HK.out _ (Below.refl _ _)
      apply px_val rfl
      · intro x w' hb hpre K hK
        have hc := (bcell hb).1
        simp [predsX, Region.binds, phiX, MX.val, MX.of, MX.any, MP.val, MP.row, MP.own, MP.any, MX.c2, MX.c3, MX.c4, MX.quad, decide_true, decide_false, List.getElem?_cons_zero, List.getElem?_cons_succ, Option.getD_some] at hpre
        simp only [frL, Act.put, List.setIfInBounds_toArray, List.set_cons_zero, List.set_cons_succ, Nat.zero_add, Nat.reduceAdd, hpre] at hK ⊢
        have HK := Lib.hid hK
        clear hK
        refine Held.mk ?_
        go_simp
        exact HK.out _ (Below.refl _ _)
      apply px_val rfl
      · intro x w' hb hpre K hK
        have hc := (bcell hb).1
        clear hpre
        simp only [frL, Act.put, List.setIfInBounds_toArray, List.set_cons_zero, List.set_cons_succ, Nat.zero_add, Nat.reduceAdd] at hK ⊢
        have HK := Lib.hid hK
        clear hK
        refine Held.mk ?_
        go_simp
        exact HK.out _ (Below.refl _ _)
      apply px_val rfl
      · intro x w' hb hpre K hK
        have hc := (bcell hb).1
        clear hpre
        simp only [frL, Act.put, List.setIfInBounds_toArray, List.set_cons_zero, List.set_cons_succ, Nat.zero_add, Nat.reduceAdd] at hK ⊢
        have HK := Lib.hid hK
        clear hK
        refine Held.mk ?_
        go_simp
        exact HK.out _ (Below.refl _ _)
      apply px_val rfl
      · intro x w' hb hpre K hK
        have hc := (bcell hb).1
        clear hpre
        simp only [frL, Act.put, List.setIfInBounds_toArray, List.set_cons_zero, List.set_cons_succ, Nat.zero_add, Nat.reduceAdd] at hK ⊢
        have HK := Lib.hid hK
        clear hK
        refine Held.mk ?_
        go_simp
        exact HK.out _ (Below.refl _ _)
      apply px_val rfl
      · intro x w' hb hpre K hK
        have hc := (bcell hb).1
        simp [predsX, Region.binds, phiX, MX.val, MX.of, MX.any, MP.val, MP.row, MP.own, MP.any, MX.c2, MX.c3, MX.c4, MX.quad, decide_true, decide_false, List.getElem?_cons_zero, List.getElem?_cons_succ, Option.getD_some] at hpre
        simp only [frL, Act.put, List.setIfInBounds_toArray, List.set_cons_zero, List.set_cons_succ, Nat.zero_add, Nat.reduceAdd, hpre] at hK ⊢
        have HK := Lib.hid hK
        clear hK
        refine Held.mk ?_
        go_simp
        exact HK.out _ (Below.refl _ _)
      apply px_val rfl
      · intro x w' hb hpre K hK
        have hc := (bcell hb).1
        clear hpre
        simp only [frL, Act.put, List.setIfInBounds_toArray, List.set_cons_zero, List.set_cons_succ, Nat.zero_add, Nat.reduceAdd] at hK ⊢
        have HK := Lib.hid hK
        clear hK
        refine Held.mk ?_
        go_simp
        exact HK.out _ (Below.refl _ _)
      apply px_val rfl
      · intro x w' hb hpre K hK
        have hc := (bcell hb).1
        simp [predsX, Region.binds, phiX, MX.val, MX.of, MX.any, MP.val, MP.row, MP.own, MP.any, MX.c2, MX.c3, MX.c4, MX.quad, decide_true, decide_false, List.getElem?_cons_zero, List.getElem?_cons_succ, Option.getD_some] at hpre
        simp only [frL, Act.put, List.setIfInBounds_toArray, List.set_cons_zero, List.set_cons_succ, Nat.zero_add, Nat.reduceAdd, hpre] at hK ⊢
        have HK := Lib.hid hK
        clear hK
        refine Held.mk ?_
        go_simp
        exact HK.out _ (Below.refl _ _)
      apply px_val rfl
      · intro x w' hb hpre K hK
        have hc := (bcell hb).1
        clear hpre
        simp only [frL, Act.put, List.setIfInBounds_toArray, List.set_cons_zero, List.set_cons_succ, Nat.zero_add, Nat.reduceAdd] at hK ⊢
        have HK := Lib.hid hK
        clear hK
        refine Held.mk ?_
        go_simp
        exact HK.out _ (Below.refl _ _)
      apply px_val rfl
      · intro x w' hb hpre K hK
        have hc := (bcell hb).1
        simp [predsX, Region.binds, phiX, MX.val, MX.of, MX.any, MP.val, MP.row, MP.own, MP.any, MX.c2, MX.c3, MX.c4, MX.quad, decide_true, decide_false, List.getElem?_cons_zero, List.getElem?_cons_succ, Option.getD_some] at hpre
        simp only [frL, Act.put, List.setIfInBounds_toArray, List.set_cons_zero, List.set_cons_succ, Nat.zero_add, Nat.reduceAdd, hpre] at hK ⊢
        have HK := Lib.hid hK
        clear hK
        refine Held.mk ?_
        go_simp
        exact HK.out _ (Below.refl _ _)
      refine px_gen (.of (.own wr.heap.size (resF xs ys a b i))) rfl ?_ ?_
      · intro x w' hb hpre K hK
        simp [predsX, Region.binds, phiX, MX.val, MX.of, MX.any, MP.val, MP.row, MP.own, MP.any, MX.c2, MX.c3, MX.c4, MX.quad, decide_true, decide_false, List.getElem?_cons_zero, List.getElem?_cons_succ, Option.getD_some] at hpre
        simp only [frL, Act.put, List.setIfInBounds_toArray, List.set_cons_zero, List.set_cons_succ, Nat.zero_add, Nat.reduceAdd, hpre] at hK ⊢
        have HK := Lib.hid hK
        clear hK
        refine Held.mk ?_
        go_simp
        refine (do_any i hi4 _ _ _ _ _ _ xs ys _ _ _ (XR.out.below hb (Nat.le_refl _)) (by omega) (YR.out.below hb (Nat.le_refl _)) (by omega) H0.out).mono ?_
        rintro e w5 ⟨v, rfl, hO, hb1⟩
        dsimp only
        exact HK.out _ _ (hO.mono hb.size) hb1
      apply px_val rfl
      · intro x w' hb hpre K hK
        simp [predsX, Region.binds, phiX, MX.val, MX.of, MX.any, MP.val, MP.row, MP.own, MP.any, MX.c2, MX.c3, MX.c4, MX.quad, decide_true, decide_false, List.getElem?_cons_zero, List.getElem?_cons_succ, Option.getD_some] at hpre
        have hO : ORow w' wr.heap.size (x 12) (resF xs ys a b i) := by first | exact hpre.2 | exact hpre.2.1
        have h3 : x 3 = .slice ai (resF xs ys a b i).length ci := hpre.1
        obtain ⟨ao, co, ho, hIo, -⟩ := hO.irow (by have := resF_len xs ys a b i; omega)
        simp only [frL, Act.put, List.setIfInBounds_toArray, List.set_cons_zero, List.set_cons_succ, Nat.zero_add, Nat.reduceAdd, h3, ho] at hK ⊢
        have HK := Lib.hid hK
        clear hK hpre hO
        have HIo := Lib.hid hIo
        clear hIo
        refine Held.mk ?_
        go_simp
        refine (ints_any _ _ _ _ _ _ (resF xs ys a b i) (resF xs ys a b i) _ (HI.out.below hb (Nat.le_refl _)) HIo.out).mono ?_
        rintro e w5 ⟨rfl, hb1⟩
        rw [beq_self_eq_true]
        dsimp only
        exact HK.out _ hb1
      apply px_val rfl
      · intro x w' hb hpre K hK
        have hc := (bcell hb).1
        simp [predsX, Region.binds, phiX, MX.val, MX.of, MX.any, MP.val, MP.row, MP.own, MP.any, MX.c2, MX.c3, MX.c4, MX.quad, decide_true, decide_false, List.getElem?_cons_zero, List.getElem?_cons_succ, Option.getD_some] at hpre
        simp only [frL, Act.put, List.setIfInBounds_toArray, List.set_cons_zero, List.set_cons_succ, Nat.zero_add, Nat.reduceAdd, hpre] at hK ⊢
        have HK := Lib.hid hK
        clear hK
        refine Held.mk ?_
        go_simp
        exact HK.out _ (Below.refl _ _)
      intro x w5 hb5 hp
      simp only [List.cons_append, List.nil_append, phisX, MX.val, MX.of, MP.val, MP.own, frL, Act.put, List.setIfInBounds_toArray, List.set_cons_zero, List.set_cons_succ, Nat.zero_add, Nat.reduceAdd] at hp ⊢
      obtain ⟨h0, h1, h2, h3, h4, h5, h6, h7, h8, h9, h10, h11, h12, h13, h14, -⟩ := hp
      simp only [h0, h1, h2, h3, h4, h5, h6, h7, h8, h9, h10, h11, h13, h14]
      clear h0 h1 h2 h3 h4 h5 h6 h7 h8 h9 h10 h11 h12 h13 h14
      generalize x 12 = vo at *
      clear x
      have B5 : Below w3.heap.size w3 w5 := hw.trans (hb5.mono hw.size)
      have Q5 : Blk w5 q qs 33 := hQ.below hb5 lq
      have R5 := Lib.hid (fun k (h1 : i ≤ k) (h2 : k < 4) => (HR.out k h1 h2).below hb5 (Nat.le_refl _))
      clear hb5 hw hQ HR zq a0 a1 a2 lr HI XR YR
      refine parts_tail (by kernel_rfl) ?_
      go_wp2_with fail
      obtain ⟨wo, rfl⟩ : ∃ wo : World, wo = wr := ⟨_, rfl⟩
      obtain ⟨go, hgo⟩ : ∃ go, go = gk := ⟨_, rfl⟩
      subst hgo
      go_loopg [9] ((resF xs ys a b i).length + 1) (fun m jj wr => ∃ (j : Nat) (zs : List Int), j ≤ (resF xs ys a b i).length ∧ m + j = (resF xs ys a b i).length + 1 ∧ jj = .int .i64 j ∧ zs.length = (resF xs ys a b i).length ∧ Below w3.heap.size w3 wr ∧ Blk wr q qs 33 ∧ ORow wr w3.heap.size (V i) zs ∧ ∀ k, i < k → k < 4 → ORow wr w3.heap.size (V k) (resF xs ys a b k))
      case atStart => exact ⟨0, resF xs ys a b i, Nat.zero_le _, by omega, rfl, rfl, B5, Q5, R5.out i (Nat.le_refl _) hi4, fun k h1 h2 => R5.out k (by omega) h2⟩
      case round =>
        obtain ⟨j, zs, hj, hmj, rfl, hzl, hw, hQ, hz, hrows⟩ := hrel
        have HR := Lib.hid hrows
        clear hrows R5
        have lq2 := hQ.lt
        have zq2 : wr.cell? ⟨q, i, none⟩ = some (.slice ai (resF xs ys a b i).length ci) := by rw [hQ.cell, CQ.out i hi4, hVi]
        by_cases hjl : j < (resF xs ys a b i).length
        · have HZ := Lib.hid hz
          rcases hz.cases with ⟨he, hn⟩ | ⟨g, cap, cur, he, hg1, hg2, hg3, hg4, hg5, hg6⟩
          · rw [hn] at hzl; simp at hzl; omega
          rw [hVi] at he
          simp only [Value.slice.injEq] at he
          obtain ⟨rfl, -, rfl⟩ := he
          have hgb : Blk wr g cur 3 := hg2
          have hgl := hgb.lt
          obtain ⟨z, hz1⟩ : ∃ z, zs[j]? = some z := ⟨zs[j]'(by omega), by simp⟩
          have zz : wr.cell? ⟨g, j, none⟩ = some (.int .i64 z) := by
            rw [hgb.cell]
            have : (cur.toList.take zs.length)[j]? = (zs.map (Value.int .i64))[j]? := by rw [hg6]
            rw [List.getElem?_take_of_lt (by omega), Array.getElem?_toList] at this
            rw [this]; simp [hz1]
          have j2 : (0 : Int) ≤ (j : Int) := Int.natCast_nonneg _
          have j3 : (j : Int) < ((resF xs ys a b i).length : Int) := by omega
          have j4 : (j : Int) < 1000 := by have := resF_len xs ys a b i; omega
          clear hz1 hz
          go_wp2_with fail
          refine region_parts (by kernel_rfl) fun wc hwc => ?_
          refine partX_steps wr 0 14 [some 77, some 78, some 79, some 80, some 81, some 82, some 83, some 84, some 85, some 86, some 87, some 88, some 89, some 90] [] hwc (by kernel_rfl) (by kernel_rfl) ?_
          clear hwc wc
          apply px_val rfl
          · intro x w' hb hpre K hK
            have hc := (bcell hb).1
            clear hpre
            simp only [frL, Act.put, List.setIfInBounds_toArray, List.set_cons_zero, List.set_cons_succ, Nat.zero_add, Nat.reduceAdd] at hK ⊢
            have HK := Lib.hid hK
            clear hK
            refine Held.mk ?_
            go_simp
            exact HK.out _ (Below.refl _ _)
          apply px_val rfl
          · intro x w' hb hpre K hK
            have hc := (bcell hb).1
            clear hpre
            simp only [frL, Act.put, List.setIfInBounds_toArray, List.set_cons_zero, List.set_cons_succ, Nat.zero_add, Nat.reduceAdd] at hK ⊢
            have HK := Lib.hid hK
            clear hK
            refine Held.mk ?_
            go_simp
            exact HK.out _ (Below.refl _ _)
          apply px_val rfl
          · intro x w' hb hpre K hK
            have hc := (bcell hb).1
            simp [predsX, Region.binds, phiX, MX.val, MX.of, MX.any, MP.val, MP.row, MP.own, MP.any, MX.c2, MX.c3, MX.c4, MX.quad, decide_true, decide_false, List.getElem?_cons_zero, List.getElem?_cons_succ, Option.getD_some] at hpre
            simp only [frL, Act.put, List.setIfInBounds_toArray, List.set_cons_zero, List.set_cons_succ, Nat.zero_add, Nat.reduceAdd, hpre] at hK ⊢
            have HK := Lib.hid hK
            clear hK
            refine Held.mk ?_
            go_simp
            exact HK.out _ (Below.refl _ _)
          apply px_val rfl
          · intro x w' hb hpre K hK
            have hc := (bcell hb).1
            simp [predsX, Region.binds, phiX, MX.val, MX.of, MX.any, MP.val, MP.row, MP.own, MP.any, MX.c2, MX.c3, MX.c4, MX.quad, decide_true, decide_false, List.getElem?_cons_zero, List.getElem?_cons_succ, Option.getD_some] at hpre
            simp only [frL, Act.put, List.setIfInBounds_toArray, List.set_cons_zero, List.set_cons_succ, Nat.zero_add, Nat.reduceAdd, hpre] at hK ⊢
            have HK := Lib.hid hK
            clear hK
            refine Held.mk ?_
            go_simp
            exact HK.out _ (Below.refl _ _)
          apply px_val rfl
          · intro x w' hb hpre K hK
            have hc := (bcell hb).1
            clear hpre
            simp only [frL, Act.put, List.setIfInBounds_toArray, List.set_cons_zero, List.set_cons_succ, Nat.zero_add, Nat.reduceAdd] at hK ⊢
            have HK := Lib.hid hK
            clear hK
            refine Held.mk ?_
            go_simp
            exact HK.out _ (Below.refl _ _)
          apply px_val rfl
          · intro x w' hb hpre K hK
            have hc := (bcell hb).1
            clear hpre
            simp only [frL, Act.put, List.setIfInBounds_toArray, List.set_cons_zero, List.set_cons_succ, Nat.zero_add, Nat.reduceAdd] at hK ⊢
            have HK := Lib.hid hK
            clear hK
            refine Held.mk ?_
            go_simp
            exact HK.out _ (Below.refl _ _)
          apply px_val rfl
          · intro x w' hb hpre K hK
            have hc := (bcell hb).1
            clear hpre
            simp only [frL, Act.put, List.setIfInBounds_toArray, List.set_cons_zero, List.set_cons_succ, Nat.zero_add, Nat.reduceAdd] at hK ⊢
            have HK := Lib.hid hK
            clear hK
            refine Held.mk ?_
            go_simp
            exact HK.out _ (Below.refl _ _)
          apply px_val rfl
          · intro x w' hb hpre K hK
            have hc := (bcell hb).1
            simp [predsX, Region.binds, phiX, MX.val, MX.of, MX.any, MP.val, MP.row, MP.own, MP.any, MX.c2, MX.c3, MX.c4, MX.quad, decide_true, decide_false, List.getElem?_cons_zero, List.getElem?_cons_succ, Option.getD_some] at hpre
            simp only [frL, Act.put, List.setIfInBounds_toArray, List.set_cons_zero, List.set_cons_succ, Nat.zero_add, Nat.reduceAdd, hpre] at hK ⊢
            have HK := Lib.hid hK
            clear hK
            refine Held.mk ?_
            go_simp
            exact HK.out _ (Below.refl _ _)
          apply px_val rfl
          · intro x w' hb hpre K hK
            have hc := (bcell hb).1
            simp [predsX, Region.binds, phiX, MX.val, MX.of, MX.any, MP.val, MP.row, MP.own, MP.any, MX.c2, MX.c3, MX.c4, MX.quad, decide_true, decide_false, List.getElem?_cons_zero, List.getElem?_cons_succ, Option.getD_some] at hpre
            simp only [frL, Act.put, List.setIfInBounds_toArray, List.set_cons_zero, List.set_cons_succ, Nat.zero_add, Nat.reduceAdd, hpre] at hK ⊢
            have HK := Lib.hid hK
            clear hK
            refine Held.mk ?_
            go_simp
            exact HK.out _ (Below.refl _ _)
          apply px_val rfl
          · intro x w' hb hpre K hK
            have hc := (bcell hb).1
            clear hpre
            simp only [frL, Act.put, List.setIfInBounds_toArray, List.set_cons_zero, List.set_cons_succ, Nat.zero_add, Nat.reduceAdd] at hK ⊢
            have HK := Lib.hid hK
            clear hK
            refine Held.mk ?_
            go_simp
            exact HK.out _ (Below.refl _ _)
          apply px_val rfl
          · intro x w' hb hpre K hK
            have hc := (bcell hb).1
            simp [predsX, Region.binds, phiX, MX.val, MX.of, MX.any, MP.val, MP.row, MP.own, MP.any, MX.c2, MX.c3, MX.c4, MX.quad, decide_true, decide_false, List.getElem?_cons_zero, List.getElem?_cons_succ, Option.getD_some] at hpre
            simp only [frL, Act.put, List.setIfInBounds_toArray, List.set_cons_zero, List.set_cons_succ, Nat.zero_add, Nat.reduceAdd, hpre] at hK ⊢
            have HK := Lib.hid hK
            clear hK
            refine Held.mk ?_
            go_simp
            exact HK.out _ (Below.refl _ _)
          apply px_val rfl
          · intro x w' hb hpre K hK
            have hc := (bcell hb).1
            simp [predsX, Region.binds, phiX, MX.val, MX.of, MX.any, MP.val, MP.row, MP.own, MP.any, MX.c2, MX.c3, MX.c4, MX.quad, decide_true, decide_false, List.getElem?_cons_zero, List.getElem?_cons_succ, Option.getD_some] at hpre
            simp only [frL, Act.put, List.setIfInBounds_toArray, List.set_cons_zero, List.set_cons_succ, Nat.zero_add, Nat.reduceAdd, hpre] at hK ⊢
            have HK := Lib.hid hK
            clear hK
            refine Held.mk ?_
            go_simp
            exact HK.out _ (Below.refl _ _)
          apply px_val rfl
          · intro x w' hb hpre K hK
            have hc := (bcell hb).1
            simp [predsX, Region.binds, phiX, MX.val, MX.of, MX.any, MP.val, MP.row, MP.own, MP.any, MX.c2, MX.c3, MX.c4, MX.quad, decide_true, decide_false, List.getElem?_cons_zero, List.getElem?_cons_succ, Option.getD_some] at hpre
            simp only [frL, Act.put, List.setIfInBounds_toArray, List.set_cons_zero, List.set_cons_succ, Nat.zero_add, Nat.reduceAdd, hpre] at hK ⊢
            have HK := Lib.hid hK
            clear hK
            refine Held.mk ?_
            go_simp
            exact HK.out _ (Below.refl _ _)
          apply px_val rfl
          · intro x w' hb hpre K hK
            have hc := (bcell hb).1
            simp [predsX, Region.binds, phiX, MX.val, MX.of, MX.any, MP.val, MP.row, MP.own, MP.any, MX.c2, MX.c3, MX.c4, MX.quad, decide_true, decide_false, List.getElem?_cons_zero, List.getElem?_cons_succ, Option.getD_some] at hpre
            simp only [frL, Act.put, List.setIfInBounds_toArray, List.set_cons_zero, List.set_cons_succ, Nat.zero_add, Nat.reduceAdd, hpre] at hK ⊢
            have HK := Lib.hid hK
            clear hK
            refine Held.mk ?_
            go_simp
            exact HK.out _ (Below.refl _ _)
          intro x w6 hb6 hp
          simp only [List.cons_append, List.nil_append, phisX, MX.val, MX.of, MP.val, MP.own, frL, Act.put, List.setIfInBounds_toArray, List.set_cons_zero, List.set_cons_succ, Nat.zero_add, Nat.reduceAdd] at hp ⊢
          obtain ⟨h0, h1, h2, h3, h4, h5, h6, h7, h8, h9, h10, h11, h12, h13, -⟩ := hp
          simp only [h0, h1, h2, h3, h4, h5, h6, h7, h8, h9, h10, h11, h12, h13]
          clear h0 h1 h2 h3 h4 h5 h6 h7 h8 h9 h10 h11 h12 h13
          clear x
          have B6 : Below w3.heap.size w3 w6 := hw.trans (hb6.mono hw.size)
          have Q6 : Blk w6 q qs 33 := hQ.below hb6 lq2
          have G6 : Blk w6 g cur 3 := hgb.below hb6 hgl
          have R6 := Lib.hid (fun k (h1 : i < k) (h2 : k < 4) => (HR.out k h1 h2).below hb6 (Nat.le_refl _))
          have f6 : w6.frozen? ⟨g, j, none⟩ = false := G6.free j
          have c6 : w6.cell? ⟨g, j, none⟩ = some (.int .i64 z) := by rw [(bcell hb6).1 _ _ hgl]; exact zz
          have hqg : q ≠ g := fun hh => AQ.out i hi4 g (by rw [hVi]; rfl) (by rw [hh]; rfl)
          have hkg : ∀ k, i < k → k < 4 → ∀ g', (V k).ownBlock = some g' → g' ≠ g := fun k h1 h2 g' h3 hh => AP.out i k h1 h2 g (by rw [hVi]; rfl) (by rw [h3, hh])
          have HKG := Lib.hid hkg
          clear hkg hw hQ HR hb6 hgb hg2 zz zq2 hgl lq2
          refine parts_tail (by kernel_rfl) ?_
          go_wp2_with fail
          go_roundg (gk - 1)
          case measure => omega
          case rel =>
            go_light
            refine ⟨j + 1, zs.set j (bits BinOp.xor IntKind.i64 z 1), by omega, by omega, by go_num, by simpa using hzl, B6.setCell hg1 _, Q6.other hqg _, ?_, fun k h1 h2 => (R6.out k h1 h2).other (HKG.out k h1 h2) _⟩
            rw [hVi]
            refine ORow.mk' (by simpa using hzl) hg1 (G6.set j _) (by simpa using hg3) hg4 (by simpa using hg5) ?_
            rw [Array.toList_setIfInBounds, List.take_set, List.length_set, hg6, List.map_set]
        · go_wp2_with fail
          go_roundg (go - 1)
          case measure => omega
          case rel =>
            go_light
            exact ⟨i + 1, by omega, by omega, by go_num, hw, hQ, fun k h1 h2 => HR.out k (by omega) h2⟩
    · have hi5 : i = 4 := by omega
      have j1 : (4 : Int) ≤ (i : Int) := by omega
      have XR := Lib.hid (X3.out.below hw (Nat.le_refl _))
      have YR := Lib.hid (Y3.out.below hw (Nat.le_refl _))
      have ZX := Lib.hid (JX.out.below hw (Nat.le_refl _))
      have ZY := Lib.hid (JY.out.below hw (Nat.le_refl _))
      go_wp2_with fail
      refine (ints_any _ _ _ _ _ _ xs xs _ ZX.out XR.out).mono ?_
      rintro e w5 ⟨rfl, hb5⟩
      rw [beq_self_eq_true]
      have hc5 := (bcell hb5).1
      go_wp2_with fail
      refine (ints_any _ _ _ _ _ _ ys ys _ (ZY.out.below hb5 (Nat.le_refl _)) (YR.out.below hb5 (Nat.le_refl _))).mono ?_
      rintro e w6 ⟨rfl, hb6⟩
      rw [beq_self_eq_true]
      go_wp2_with fail
      go_light
      go_ret
      exact ⟨rfl, k3.trans ((hw.trans ((hb5.mono hw.size).trans (hb6.mono (by have := hw.size; have := hb5.size; omega)))).mono k3.size)⟩
end Go.Proofs.Ytpnlhkpibgngbaa

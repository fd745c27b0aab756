/- The document's comparison of two rows. -/
import Derived.Test.YtaoobajokhcimaaGreatDoorCpG
import Derived.Test.YtaoobajokhcimaaGreatDoorMgC
set_option linter.unusedSimpArgs false
set_option linter.unusedVariables false
set_option linter.constructorNameAsVariable false
namespace Go.Proofs.YtaoobajokhcimaaGreatDoor
open Go.RowKit Go.Sort

theorem out_err {pv rv gv : Bool} {pr rr gr : Int} {x1 x2 : Bool × Int} (r : Int) (e : (r != 0) = true) (hp : (pv, pr) = (false, r)) (he : (if pv || pr != 0 then (pv, pr) else x1) = (rv, rr)) (hd : (if rv || rr != 0 then (rv, rr) else x2) = (gv, gr)) : gv = false ∧ gr = r := by
  obtain ⟨rfl, rfl⟩ := Prod.mk.inj hp
  rw [e] at he
  obtain ⟨rfl, rfl⟩ := Prod.mk.inj (show ((false, pr) : Bool × Int) = (rv, rr) from he)
  rw [e] at hd
  obtain ⟨rfl, rfl⟩ := Prod.mk.inj (show ((false, pr) : Bool × Int) = (gv, gr) from hd)
  exact ⟨rfl, rfl⟩
theorem out_hit {pv rv gv : Bool} {pr rr gr : Int} {x1 x2 : Bool × Int} (hp : (pv, pr) = (true, 0)) (he : (if pv || pr != 0 then (pv, pr) else x1) = (rv, rr)) (hd : (if rv || rr != 0 then (rv, rr) else x2) = (gv, gr)) : gv = true ∧ gr = 0 := by
  obtain ⟨rfl, rfl⟩ := Prod.mk.inj hp
  obtain ⟨rfl, rfl⟩ := Prod.mk.inj (show ((true, 0) : Bool × Int) = (rv, rr) from he)
  obtain ⟨rfl, rfl⟩ := Prod.mk.inj (show ((true, 0) : Bool × Int) = (gv, gr) from hd)
  exact ⟨rfl, rfl⟩
theorem out_on {pv rv : Bool} {pr rr : Int} {x1 : Bool × Int} (hp : (pv, pr) = (false, 0)) (he : (if pv || pr != 0 then (pv, pr) else x1) = (rv, rr)) : x1 = (rv, rr) := by
  obtain ⟨rfl, rfl⟩ := Prod.mk.inj hp
  exact he

set_option maxRecDepth 100000 in
set_option maxHeartbeats 8000000 in
theorem rgeneral_any (kd : Int) (h : 0 ≤ kd ∧ kd ≤ 5) (a1 a2 : Option Addr) (c1 c2 : Nat) (xs ys : List At) (w : World) (hX : TRow w a1 xs) (hY : TRow w a2 ys) (lx : xs.length ≤ 1000000) (ly : ys.length ≤ 1000000)
    (rx : ∀ x ∈ xs, RA x ∧ x.t.size ≤ 2000000) (ry : ∀ y ∈ ys, RA y ∧ y.t.size ≤ 2000000) :
    Calls Tryz.prog 32 #[.int .i64 kd, .slice a1 xs.length c1, .slice a2 ys.length c2] w fun e w' => e = .returned (.tuple #[.bool (genF (kd + 13) xs ys).1, .int .i64 (genF (kd + 13) xs ys).2]) ∧ Below w.heap.size w w' := by
  have HX := Lib.hid hX
  have HY := Lib.hid hY
  have RX := Lib.hid rx
  have RY := Lib.hid ry
  clear hX hY rx ry
  obtain ⟨O, hO⟩ : ∃ O, kd + 13 = O := ⟨_, rfl⟩
  have hop : (decide (O < 13) || decide (18 < O)) = false := by simp; omega
  have hkd : O - 13 = kd := by omega
  rw [hO]
  clear hO
  obtain ⟨GV, GR, hG⟩ : ∃ GV GR, genF O xs ys = (GV, GR) := ⟨_, _, rfl⟩
  rw [hG]
  have HG := Lib.hid hG
  clear hG
  simp only
  go_enter Tryz.func32, Tryz.ntmps32
  go_wp2_with fail
  go_loopg [8] (xs.length + 1) (fun m jj wr => ∃ j : Nat, j ≤ xs.length ∧ m + j = xs.length + 1 ∧ jj = .int .i64 (j : Int) ∧ Below w.heap.size w wr ∧ Hid (genF O (xs.drop j) ys = (GV, GR)))
  case atStart => exact ⟨0, by omega, by omega, rfl, Below.refl _ _, by unfold Hid; rw [List.drop_zero]; exact HG.out⟩
  case round =>
    obtain ⟨j, hj, hmj, rfl, hw, HD⟩ := hrel
    have hj0 : (0 : Int) ≤ (j : Int) := Int.natCast_nonneg _
    have j3 : IntKind.i64.wrap ((j : Int) + 1) = (j : Int) + 1 := IntWalk.i64_in _ (by omega)
    by_cases hlt : j < xs.length
    · obtain ⟨x, hjx⟩ : ∃ x, xs[j]? = some x := ⟨xs[j], by simp [hlt]⟩
      have hd := HD.out
      rw [drop_cons hjx, gen_step] at hd
      have HD2 := Lib.hid hd
      have RXx := Lib.hid (RX.out x (List.mem_of_getElem? hjx))
      rcases HX.out with h0 | ⟨b, o, rfl, hb, hc⟩
      · rw [h0] at hlt; simp at hlt
      obtain ⟨x0, x1, x2, x3, x4⟩ := hc j x hjx
      clear hc hjx hd HD
      obtain ⟨k, n, s, t, bb⟩ := x
      simp only at x0 x1 x2 x3 x4
      have i0 : decide ((j : Int) < (xs.length : Int)) = true := by simp; omega
      obtain ⟨RV, RR, hRR⟩ : ∃ RV RR, rowF O ⟨k, n, s, t, bb⟩ ys = (RV, RR) := ⟨_, _, rfl⟩
      have HRR := Lib.hid hRR
      have hd2 := HD2.out
      rw [hRR] at hd2
      have HD3 := Lib.hid (show (if RV || RR != 0 then (RV, RR) else genF O (xs.drop (j + 1)) ys) = (GV, GR) from hd2)
      clear hRR hd2 HD2
      go_wp2_with fail
      obtain ⟨G, hGk⟩ : ∃ G, G = gk := ⟨_, rfl⟩
      subst hGk
      go_loopg [9] (ys.length + 1) (fun m ii wi => ∃ i : Nat, i ≤ ys.length ∧ m + i = ys.length + 1 ∧ ii = .int .i64 (i : Int) ∧ Below w.heap.size w wi ∧ Hid (rowF O ⟨k, n, s, t, bb⟩ (ys.drop i) = (RV, RR)))
      case atStart => exact ⟨0, by omega, by omega, rfl, hw, by unfold Hid; rw [List.drop_zero]; exact HRR.out⟩
      case round =>
        obtain ⟨i, hi, hmi, rfl, hwi, HE⟩ := hrel
        have hi0 : (0 : Int) ≤ (i : Int) := Int.natCast_nonneg _
        have i3 : IntKind.i64.wrap ((i : Int) + 1) = (i : Int) + 1 := IntWalk.i64_in _ (by omega)
        by_cases hlti : i < ys.length
        · obtain ⟨y, hiy⟩ : ∃ y, ys[i]? = some y := ⟨ys[i], by simp [hlti]⟩
          have he := HE.out
          rw [drop_cons hiy, row_step] at he
          have RYy := Lib.hid (RY.out y (List.mem_of_getElem? hiy))
          rcases HY.out with h0 | ⟨b2, o2, rfl, hb2, hc2⟩
          · rw [h0] at hlti; simp at hlti
          obtain ⟨u0, u1, u2, u3, u4⟩ := hc2 i y hiy
          have y0 := (hwi.cell (p := ⟨b, o + j * 5, none⟩) hb).trans x0
          have y1 := (hwi.cell (p := ⟨b, o + j * 5 + 1, none⟩) hb).trans x1
          have y2 := (hwi.cell (p := ⟨b, o + j * 5 + 2, none⟩) hb).trans x2
          have y3 := (hwi.cell (p := ⟨b, o + j * 5 + 3, none⟩) hb).trans x3
          have y4 := (hwi.cell (p := ⟨b, o + j * 5 + 4, none⟩) hb).trans x4
          have z0 := (hwi.cell (p := ⟨b2, o2 + i * 5, none⟩) hb2).trans u0
          have z1 := (hwi.cell (p := ⟨b2, o2 + i * 5 + 1, none⟩) hb2).trans u1
          have z2 := (hwi.cell (p := ⟨b2, o2 + i * 5 + 2, none⟩) hb2).trans u2
          have z3 := (hwi.cell (p := ⟨b2, o2 + i * 5 + 3, none⟩) hb2).trans u3
          have z4 := (hwi.cell (p := ⟨b2, o2 + i * 5 + 4, none⟩) hb2).trans u4
          have lb := Nat.lt_of_lt_of_le hb hwi.size
          have lb2 := Nat.lt_of_lt_of_le hb2 hwi.size
          clear u0 u1 u2 u3 u4 hc2 hiy HE
          obtain ⟨k2, n2, s2, t2, b2v⟩ := y
          simp only at z0 z1 z2 z3 z4
          have i1 : decide ((i : Int) < (ys.length : Int)) = true := by simp; omega
          have BX := Lib.hid (fun w' => rbeside_any ⟨k, n, s, t, bb⟩ ⟨k2, n2, s2, t2, b2v⟩ RXx.out.1 RYy.out.1 RXx.out.2 w')
          have BY := Lib.hid (fun w' => rbeside_any ⟨k2, n2, s2, t2, b2v⟩ ⟨k, n, s, t, bb⟩ RYy.out.1 RXx.out.1 RYy.out.2 w')
          have ROr := Lib.hid (fun (h1 : (besideF ⟨k, n, s, t, bb⟩ ⟨k2, n2, s2, t2, b2v⟩).2 = 0) (h2 : (besideF ⟨k2, n2, s2, t2, b2v⟩ ⟨k, n, s, t, bb⟩).2 = 0) w' => rorder_any (besideF ⟨k, n, s, t, bb⟩ ⟨k2, n2, s2, t2, b2v⟩).1 (besideF ⟨k2, n2, s2, t2, b2v⟩ ⟨k, n, s, t, bb⟩).1 (beside_RA RXx.out.1 h1) (beside_RA RYy.out.1 h2) w')
          obtain ⟨PV, PR, hPP⟩ : ∃ PV PR, pairF O ⟨k, n, s, t, bb⟩ ⟨k2, n2, s2, t2, b2v⟩ = (PV, PR) := ⟨_, _, rfl⟩
          rw [hPP] at he
          unfold pairF at hPP
          obtain ⟨⟨xk, xn, xs', xt, xb⟩, r1, hb1⟩ : ∃ p r, besideF ⟨k, n, s, t, bb⟩ ⟨k2, n2, s2, t2, b2v⟩ = (p, r) := ⟨_, _, rfl⟩
          obtain ⟨⟨yk, yn, ys', yt, yb⟩, r2, hb2'⟩ : ∃ p r, besideF ⟨k2, n2, s2, t2, b2v⟩ ⟨k, n, s, t, bb⟩ = (p, r) := ⟨_, _, rfl⟩
          rw [hb1] at BX ROr hPP
          rw [hb2'] at BY ROr hPP
          clear hb1 hb2'
          simp only at BX BY ROr he hPP
          obtain ⟨on, oe, hoo⟩ : ∃ on oe, orderF ⟨xk, xn, xs', xt, xb⟩ ⟨yk, yn, ys', yt, yb⟩ = (on, oe) := ⟨_, _, rfl⟩
          have hon := order_vals ⟨xk, xn, xs', xt, xb⟩ ⟨yk, yn, ys', yt, yb⟩
          unfold valueF at hPP
          rw [hop, hoo] at hPP
          rw [hoo] at ROr hon
          simp only [Bool.false_eq_true, if_false] at hPP hon ROr
          clear hoo
          have hh := hold_eq hop hon
          rw [hkd] at hh
          have HE := Lib.hid he
          have HP := Lib.hid hPP
          have HH := Lib.hid hh
          clear he hPP hh hon
          unfold AV at BX BY ROr
          simp only at BX BY ROr
          go_wp2_with fail
          obtain ⟨RA, hRA⟩ : ∃ RA : Array Value, RA = #[.int .i64 xk, .int .i64 xn, .int .i64 xs', .string xt, .bool xb] := ⟨_, rfl⟩
          have HA := Lib.hid hRA
          clear hRA
          refine RC.region_steps (R := RE wr.heap.size 24 RA) 14 [some 29, some 30, some 31, some 32, some 33, some 34, some 35, some 36, some 37, some 28, some 38, some 39, some 10, none] (JE 12 13) RE.trans RE.drew (fun w9 => fun q hq => by simp [orig, undef] at hq) (by kernel_rfl) (by kernel_rfl) ?_
          -- 0: Op.move (Operand.tmp 1)
          apply RC.ls_val (JE.step (by decide))
          · intro x w' hb hpre K hK
            have y'0 := (hb.bl.cell (p := ⟨b, o + j * 5, none⟩) lb).trans y0
            have y'1 := (hb.bl.cell (p := ⟨b, o + j * 5 + 1, none⟩) lb).trans y1
            have y'2 := (hb.bl.cell (p := ⟨b, o + j * 5 + 2, none⟩) lb).trans y2
            have y'3 := (hb.bl.cell (p := ⟨b, o + j * 5 + 3, none⟩) lb).trans y3
            have y'4 := (hb.bl.cell (p := ⟨b, o + j * 5 + 4, none⟩) lb).trans y4
            have z'0 := (hb.bl.cell (p := ⟨b2, o2 + i * 5, none⟩) lb2).trans z0
            have z'1 := (hb.bl.cell (p := ⟨b2, o2 + i * 5 + 1, none⟩) lb2).trans z1
            have z'2 := (hb.bl.cell (p := ⟨b2, o2 + i * 5 + 2, none⟩) lb2).trans z2
            have z'3 := (hb.bl.cell (p := ⟨b2, o2 + i * 5 + 3, none⟩) lb2).trans z3
            have z'4 := (hb.bl.cell (p := ⟨b2, o2 + i * 5 + 4, none⟩) lb2).trans z4
            clear hpre
            simp only [frL, Act.put, List.setIfInBounds_toArray, List.set_cons_zero, List.set_cons_succ, Nat.zero_add, Nat.reduceAdd] at hK ⊢
            have HK := Lib.hid hK
            clear hK
            refine Held.mk ?_
            go_simp
            exact HK.out _ (RE.refl _)
          -- 1: Op.move (Operand.tmp 8)
          apply RC.ls_val (JE.step (by decide))
          · intro x w' hb hpre K hK
            have y'0 := (hb.bl.cell (p := ⟨b, o + j * 5, none⟩) lb).trans y0
            have y'1 := (hb.bl.cell (p := ⟨b, o + j * 5 + 1, none⟩) lb).trans y1
            have y'2 := (hb.bl.cell (p := ⟨b, o + j * 5 + 2, none⟩) lb).trans y2
            have y'3 := (hb.bl.cell (p := ⟨b, o + j * 5 + 3, none⟩) lb).trans y3
            have y'4 := (hb.bl.cell (p := ⟨b, o + j * 5 + 4, none⟩) lb).trans y4
            have z'0 := (hb.bl.cell (p := ⟨b2, o2 + i * 5, none⟩) lb2).trans z0
            have z'1 := (hb.bl.cell (p := ⟨b2, o2 + i * 5 + 1, none⟩) lb2).trans z1
            have z'2 := (hb.bl.cell (p := ⟨b2, o2 + i * 5 + 2, none⟩) lb2).trans z2
            have z'3 := (hb.bl.cell (p := ⟨b2, o2 + i * 5 + 3, none⟩) lb2).trans z3
            have z'4 := (hb.bl.cell (p := ⟨b2, o2 + i * 5 + 4, none⟩) lb2).trans z4
            clear hpre
            simp only [frL, Act.put, List.setIfInBounds_toArray, List.set_cons_zero, List.set_cons_succ, Nat.zero_add, Nat.reduceAdd] at hK ⊢
            have HK := Lib.hid hK
            clear hK
            refine Held.mk ?_
            go_simp
            exact HK.out _ (RE.refl _)
          -- 2: Op.indexAddr 46 (Operand.tmp 29) (Operand.tmp 30)
          apply RC.ls_val (JE.step (by decide))
          · intro x w' hb hpre K hK
            have y'0 := (hb.bl.cell (p := ⟨b, o + j * 5, none⟩) lb).trans y0
            have y'1 := (hb.bl.cell (p := ⟨b, o + j * 5 + 1, none⟩) lb).trans y1
            have y'2 := (hb.bl.cell (p := ⟨b, o + j * 5 + 2, none⟩) lb).trans y2
            have y'3 := (hb.bl.cell (p := ⟨b, o + j * 5 + 3, none⟩) lb).trans y3
            have y'4 := (hb.bl.cell (p := ⟨b, o + j * 5 + 4, none⟩) lb).trans y4
            have z'0 := (hb.bl.cell (p := ⟨b2, o2 + i * 5, none⟩) lb2).trans z0
            have z'1 := (hb.bl.cell (p := ⟨b2, o2 + i * 5 + 1, none⟩) lb2).trans z1
            have z'2 := (hb.bl.cell (p := ⟨b2, o2 + i * 5 + 2, none⟩) lb2).trans z2
            have z'3 := (hb.bl.cell (p := ⟨b2, o2 + i * 5 + 3, none⟩) lb2).trans z3
            have z'4 := (hb.bl.cell (p := ⟨b2, o2 + i * 5 + 4, none⟩) lb2).trans z4
            simp [preds, Region.binds, RC.phi, RC.MP.val] at hpre
            simp only [frL, Act.put, List.setIfInBounds_toArray, List.set_cons_zero, List.set_cons_succ, Nat.zero_add, Nat.reduceAdd, hpre] at hK ⊢
            have HK := Lib.hid hK
            clear hK
            refine Held.mk ?_
            go_simp
            exact HK.out _ (RE.refl _)
          -- 3: Op.load 24 (Operand.tmp 31)
          apply RC.ls_val (JE.step (by decide))
          · intro x w' hb hpre K hK
            have y'0 := (hb.bl.cell (p := ⟨b, o + j * 5, none⟩) lb).trans y0
            have y'1 := (hb.bl.cell (p := ⟨b, o + j * 5 + 1, none⟩) lb).trans y1
            have y'2 := (hb.bl.cell (p := ⟨b, o + j * 5 + 2, none⟩) lb).trans y2
            have y'3 := (hb.bl.cell (p := ⟨b, o + j * 5 + 3, none⟩) lb).trans y3
            have y'4 := (hb.bl.cell (p := ⟨b, o + j * 5 + 4, none⟩) lb).trans y4
            have z'0 := (hb.bl.cell (p := ⟨b2, o2 + i * 5, none⟩) lb2).trans z0
            have z'1 := (hb.bl.cell (p := ⟨b2, o2 + i * 5 + 1, none⟩) lb2).trans z1
            have z'2 := (hb.bl.cell (p := ⟨b2, o2 + i * 5 + 2, none⟩) lb2).trans z2
            have z'3 := (hb.bl.cell (p := ⟨b2, o2 + i * 5 + 3, none⟩) lb2).trans z3
            have z'4 := (hb.bl.cell (p := ⟨b2, o2 + i * 5 + 4, none⟩) lb2).trans z4
            simp [preds, Region.binds, RC.phi, RC.MP.val] at hpre
            simp only [frL, Act.put, List.setIfInBounds_toArray, List.set_cons_zero, List.set_cons_succ, Nat.zero_add, Nat.reduceAdd, hpre] at hK ⊢
            have HK := Lib.hid hK
            clear hK
            refine Held.mk ?_
            go_simp
            exact HK.out _ (RE.refl _)
          -- 4: Op.move (Operand.tmp 2)
          apply RC.ls_val (JE.step (by decide))
          · intro x w' hb hpre K hK
            have y'0 := (hb.bl.cell (p := ⟨b, o + j * 5, none⟩) lb).trans y0
            have y'1 := (hb.bl.cell (p := ⟨b, o + j * 5 + 1, none⟩) lb).trans y1
            have y'2 := (hb.bl.cell (p := ⟨b, o + j * 5 + 2, none⟩) lb).trans y2
            have y'3 := (hb.bl.cell (p := ⟨b, o + j * 5 + 3, none⟩) lb).trans y3
            have y'4 := (hb.bl.cell (p := ⟨b, o + j * 5 + 4, none⟩) lb).trans y4
            have z'0 := (hb.bl.cell (p := ⟨b2, o2 + i * 5, none⟩) lb2).trans z0
            have z'1 := (hb.bl.cell (p := ⟨b2, o2 + i * 5 + 1, none⟩) lb2).trans z1
            have z'2 := (hb.bl.cell (p := ⟨b2, o2 + i * 5 + 2, none⟩) lb2).trans z2
            have z'3 := (hb.bl.cell (p := ⟨b2, o2 + i * 5 + 3, none⟩) lb2).trans z3
            have z'4 := (hb.bl.cell (p := ⟨b2, o2 + i * 5 + 4, none⟩) lb2).trans z4
            clear hpre
            simp only [frL, Act.put, List.setIfInBounds_toArray, List.set_cons_zero, List.set_cons_succ, Nat.zero_add, Nat.reduceAdd] at hK ⊢
            have HK := Lib.hid hK
            clear hK
            refine Held.mk ?_
            go_simp
            exact HK.out _ (RE.refl _)
          -- 5: Op.move (Operand.tmp 9)
          apply RC.ls_val (JE.step (by decide))
          · intro x w' hb hpre K hK
            have y'0 := (hb.bl.cell (p := ⟨b, o + j * 5, none⟩) lb).trans y0
            have y'1 := (hb.bl.cell (p := ⟨b, o + j * 5 + 1, none⟩) lb).trans y1
            have y'2 := (hb.bl.cell (p := ⟨b, o + j * 5 + 2, none⟩) lb).trans y2
            have y'3 := (hb.bl.cell (p := ⟨b, o + j * 5 + 3, none⟩) lb).trans y3
            have y'4 := (hb.bl.cell (p := ⟨b, o + j * 5 + 4, none⟩) lb).trans y4
            have z'0 := (hb.bl.cell (p := ⟨b2, o2 + i * 5, none⟩) lb2).trans z0
            have z'1 := (hb.bl.cell (p := ⟨b2, o2 + i * 5 + 1, none⟩) lb2).trans z1
            have z'2 := (hb.bl.cell (p := ⟨b2, o2 + i * 5 + 2, none⟩) lb2).trans z2
            have z'3 := (hb.bl.cell (p := ⟨b2, o2 + i * 5 + 3, none⟩) lb2).trans z3
            have z'4 := (hb.bl.cell (p := ⟨b2, o2 + i * 5 + 4, none⟩) lb2).trans z4
            clear hpre
            simp only [frL, Act.put, List.setIfInBounds_toArray, List.set_cons_zero, List.set_cons_succ, Nat.zero_add, Nat.reduceAdd] at hK ⊢
            have HK := Lib.hid hK
            clear hK
            refine Held.mk ?_
            go_simp
            exact HK.out _ (RE.refl _)
          -- 6: Op.indexAddr 46 (Operand.tmp 33) (Operand.tmp 34)
          apply RC.ls_val (JE.step (by decide))
          · intro x w' hb hpre K hK
            have y'0 := (hb.bl.cell (p := ⟨b, o + j * 5, none⟩) lb).trans y0
            have y'1 := (hb.bl.cell (p := ⟨b, o + j * 5 + 1, none⟩) lb).trans y1
            have y'2 := (hb.bl.cell (p := ⟨b, o + j * 5 + 2, none⟩) lb).trans y2
            have y'3 := (hb.bl.cell (p := ⟨b, o + j * 5 + 3, none⟩) lb).trans y3
            have y'4 := (hb.bl.cell (p := ⟨b, o + j * 5 + 4, none⟩) lb).trans y4
            have z'0 := (hb.bl.cell (p := ⟨b2, o2 + i * 5, none⟩) lb2).trans z0
            have z'1 := (hb.bl.cell (p := ⟨b2, o2 + i * 5 + 1, none⟩) lb2).trans z1
            have z'2 := (hb.bl.cell (p := ⟨b2, o2 + i * 5 + 2, none⟩) lb2).trans z2
            have z'3 := (hb.bl.cell (p := ⟨b2, o2 + i * 5 + 3, none⟩) lb2).trans z3
            have z'4 := (hb.bl.cell (p := ⟨b2, o2 + i * 5 + 4, none⟩) lb2).trans z4
            simp [preds, Region.binds, RC.phi, RC.MP.val] at hpre
            simp only [frL, Act.put, List.setIfInBounds_toArray, List.set_cons_zero, List.set_cons_succ, Nat.zero_add, Nat.reduceAdd, hpre] at hK ⊢
            have HK := Lib.hid hK
            clear hK
            refine Held.mk ?_
            go_simp
            exact HK.out _ (RE.refl _)
          -- 7: Op.load 24 (Operand.tmp 35)
          apply RC.ls_val (JE.step (by decide))
          · intro x w' hb hpre K hK
            have y'0 := (hb.bl.cell (p := ⟨b, o + j * 5, none⟩) lb).trans y0
            have y'1 := (hb.bl.cell (p := ⟨b, o + j * 5 + 1, none⟩) lb).trans y1
            have y'2 := (hb.bl.cell (p := ⟨b, o + j * 5 + 2, none⟩) lb).trans y2
            have y'3 := (hb.bl.cell (p := ⟨b, o + j * 5 + 3, none⟩) lb).trans y3
            have y'4 := (hb.bl.cell (p := ⟨b, o + j * 5 + 4, none⟩) lb).trans y4
            have z'0 := (hb.bl.cell (p := ⟨b2, o2 + i * 5, none⟩) lb2).trans z0
            have z'1 := (hb.bl.cell (p := ⟨b2, o2 + i * 5 + 1, none⟩) lb2).trans z1
            have z'2 := (hb.bl.cell (p := ⟨b2, o2 + i * 5 + 2, none⟩) lb2).trans z2
            have z'3 := (hb.bl.cell (p := ⟨b2, o2 + i * 5 + 3, none⟩) lb2).trans z3
            have z'4 := (hb.bl.cell (p := ⟨b2, o2 + i * 5 + 4, none⟩) lb2).trans z4
            simp [preds, Region.binds, RC.phi, RC.MP.val] at hpre
            simp only [frL, Act.put, List.setIfInBounds_toArray, List.set_cons_zero, List.set_cons_succ, Nat.zero_add, Nat.reduceAdd, hpre] at hK ⊢
            have HK := Lib.hid hK
            clear hK
            refine Held.mk ?_
            go_simp
            exact HK.out _ (RE.refl _)
          -- 8: Op.call { callee := Callee.value (Operand.func 60), args := #[Operand.tmp 32, Op
          apply RC.ls_val (JE.step (by decide))
          · intro x w' hb hpre K hK
            have y'0 := (hb.bl.cell (p := ⟨b, o + j * 5, none⟩) lb).trans y0
            have y'1 := (hb.bl.cell (p := ⟨b, o + j * 5 + 1, none⟩) lb).trans y1
            have y'2 := (hb.bl.cell (p := ⟨b, o + j * 5 + 2, none⟩) lb).trans y2
            have y'3 := (hb.bl.cell (p := ⟨b, o + j * 5 + 3, none⟩) lb).trans y3
            have y'4 := (hb.bl.cell (p := ⟨b, o + j * 5 + 4, none⟩) lb).trans y4
            have z'0 := (hb.bl.cell (p := ⟨b2, o2 + i * 5, none⟩) lb2).trans z0
            have z'1 := (hb.bl.cell (p := ⟨b2, o2 + i * 5 + 1, none⟩) lb2).trans z1
            have z'2 := (hb.bl.cell (p := ⟨b2, o2 + i * 5 + 2, none⟩) lb2).trans z2
            have z'3 := (hb.bl.cell (p := ⟨b2, o2 + i * 5 + 3, none⟩) lb2).trans z3
            have z'4 := (hb.bl.cell (p := ⟨b2, o2 + i * 5 + 4, none⟩) lb2).trans z4
            simp [preds, Region.binds, RC.phi, RC.MP.val] at hpre
            simp only [frL, Act.put, List.setIfInBounds_toArray, List.set_cons_zero, List.set_cons_succ, Nat.zero_add, Nat.reduceAdd, hpre] at hK ⊢
            have HK := Lib.hid hK
            clear hK
            refine Held.mk ?_
            go_simp
            (with_reducible refine (BX.out _).mono ?_)
            rintro e w1 ⟨rfl, hb1⟩
            dsimp only
            exact HK.out _ (RE.ofBelow hb1 hb.bl.size)
          -- 9: Op.move (Operand.tmp 37)
          apply RC.ls_val (JE.step (by decide))
          · intro x w' hb hpre K hK
            have y'0 := (hb.bl.cell (p := ⟨b, o + j * 5, none⟩) lb).trans y0
            have y'1 := (hb.bl.cell (p := ⟨b, o + j * 5 + 1, none⟩) lb).trans y1
            have y'2 := (hb.bl.cell (p := ⟨b, o + j * 5 + 2, none⟩) lb).trans y2
            have y'3 := (hb.bl.cell (p := ⟨b, o + j * 5 + 3, none⟩) lb).trans y3
            have y'4 := (hb.bl.cell (p := ⟨b, o + j * 5 + 4, none⟩) lb).trans y4
            have z'0 := (hb.bl.cell (p := ⟨b2, o2 + i * 5, none⟩) lb2).trans z0
            have z'1 := (hb.bl.cell (p := ⟨b2, o2 + i * 5 + 1, none⟩) lb2).trans z1
            have z'2 := (hb.bl.cell (p := ⟨b2, o2 + i * 5 + 2, none⟩) lb2).trans z2
            have z'3 := (hb.bl.cell (p := ⟨b2, o2 + i * 5 + 3, none⟩) lb2).trans z3
            have z'4 := (hb.bl.cell (p := ⟨b2, o2 + i * 5 + 4, none⟩) lb2).trans z4
            simp [preds, Region.binds, RC.phi, RC.MP.val] at hpre
            simp only [frL, Act.put, List.setIfInBounds_toArray, List.set_cons_zero, List.set_cons_succ, Nat.zero_add, Nat.reduceAdd, hpre] at hK ⊢
            have HK := Lib.hid hK
            clear hK
            refine Held.mk ?_
            go_simp
            exact HK.out _ (RE.refl _)
          -- 10: Op.extract (Operand.tmp 28) 0
          apply RC.ls_val (JE.step (by decide))
          · intro x w' hb hpre K hK
            have y'0 := (hb.bl.cell (p := ⟨b, o + j * 5, none⟩) lb).trans y0
            have y'1 := (hb.bl.cell (p := ⟨b, o + j * 5 + 1, none⟩) lb).trans y1
            have y'2 := (hb.bl.cell (p := ⟨b, o + j * 5 + 2, none⟩) lb).trans y2
            have y'3 := (hb.bl.cell (p := ⟨b, o + j * 5 + 3, none⟩) lb).trans y3
            have y'4 := (hb.bl.cell (p := ⟨b, o + j * 5 + 4, none⟩) lb).trans y4
            have z'0 := (hb.bl.cell (p := ⟨b2, o2 + i * 5, none⟩) lb2).trans z0
            have z'1 := (hb.bl.cell (p := ⟨b2, o2 + i * 5 + 1, none⟩) lb2).trans z1
            have z'2 := (hb.bl.cell (p := ⟨b2, o2 + i * 5 + 2, none⟩) lb2).trans z2
            have z'3 := (hb.bl.cell (p := ⟨b2, o2 + i * 5 + 3, none⟩) lb2).trans z3
            have z'4 := (hb.bl.cell (p := ⟨b2, o2 + i * 5 + 4, none⟩) lb2).trans z4
            simp [preds, Region.binds, RC.phi, RC.MP.val] at hpre
            simp only [frL, Act.put, List.setIfInBounds_toArray, List.set_cons_zero, List.set_cons_succ, Nat.zero_add, Nat.reduceAdd, hpre] at hK ⊢
            have HK := Lib.hid hK
            clear hK
            refine Held.mk ?_
            go_simp
            exact HK.out _ (RE.refl _)
          -- 11: Op.extract (Operand.tmp 28) 1
          apply RC.ls_val (JE.step (by decide))
          · intro x w' hb hpre K hK
            have y'0 := (hb.bl.cell (p := ⟨b, o + j * 5, none⟩) lb).trans y0
            have y'1 := (hb.bl.cell (p := ⟨b, o + j * 5 + 1, none⟩) lb).trans y1
            have y'2 := (hb.bl.cell (p := ⟨b, o + j * 5 + 2, none⟩) lb).trans y2
            have y'3 := (hb.bl.cell (p := ⟨b, o + j * 5 + 3, none⟩) lb).trans y3
            have y'4 := (hb.bl.cell (p := ⟨b, o + j * 5 + 4, none⟩) lb).trans y4
            have z'0 := (hb.bl.cell (p := ⟨b2, o2 + i * 5, none⟩) lb2).trans z0
            have z'1 := (hb.bl.cell (p := ⟨b2, o2 + i * 5 + 1, none⟩) lb2).trans z1
            have z'2 := (hb.bl.cell (p := ⟨b2, o2 + i * 5 + 2, none⟩) lb2).trans z2
            have z'3 := (hb.bl.cell (p := ⟨b2, o2 + i * 5 + 3, none⟩) lb2).trans z3
            have z'4 := (hb.bl.cell (p := ⟨b2, o2 + i * 5 + 4, none⟩) lb2).trans z4
            simp [preds, Region.binds, RC.phi, RC.MP.val] at hpre
            simp only [frL, Act.put, List.setIfInBounds_toArray, List.set_cons_zero, List.set_cons_succ, Nat.zero_add, Nat.reduceAdd, hpre] at hK ⊢
            have HK := Lib.hid hK
            clear hK
            refine Held.mk ?_
            go_simp
            exact HK.out _ (RE.refl _)
          -- 12: Op.alloc 24
          refine RC.ls_genO (MPbo wr.heap.size 24 RA) ?_ ?_
          · intro x w' hb hj hpre ho K hK
            have ho13 : ∀ q, x 13 ≠ .pointer (some ⟨q, 0, none⟩) := fun q hq => by rw [ho 13 (by omega) (by kernel_rfl)] at hq; simp [orig, undef] at hq
            clear ho
            have y'0 := (hb.bl.cell (p := ⟨b, o + j * 5, none⟩) lb).trans y0
            have y'1 := (hb.bl.cell (p := ⟨b, o + j * 5 + 1, none⟩) lb).trans y1
            have y'2 := (hb.bl.cell (p := ⟨b, o + j * 5 + 2, none⟩) lb).trans y2
            have y'3 := (hb.bl.cell (p := ⟨b, o + j * 5 + 3, none⟩) lb).trans y3
            have y'4 := (hb.bl.cell (p := ⟨b, o + j * 5 + 4, none⟩) lb).trans y4
            have z'0 := (hb.bl.cell (p := ⟨b2, o2 + i * 5, none⟩) lb2).trans z0
            have z'1 := (hb.bl.cell (p := ⟨b2, o2 + i * 5 + 1, none⟩) lb2).trans z1
            have z'2 := (hb.bl.cell (p := ⟨b2, o2 + i * 5 + 2, none⟩) lb2).trans z2
            have z'3 := (hb.bl.cell (p := ⟨b2, o2 + i * 5 + 3, none⟩) lb2).trans z3
            have z'4 := (hb.bl.cell (p := ⟨b2, o2 + i * 5 + 4, none⟩) lb2).trans z4
            clear hpre
            simp only [frL, Act.put, List.setIfInBounds_toArray, List.set_cons_zero, List.set_cons_succ, Nat.zero_add, Nat.reduceAdd] at hK ⊢
            have HK := Lib.hid hK
            clear hK
            refine Held.mk ?_
            go_simp
            exact HK.out _ _ ⟨_, _, rfl, hb.bl.size, by rw [HA.out]; rfl, Blk.new _ _ _⟩ (JE.make ho13 rfl _) (RE.ofBelow ((Below.refl _ _).alloc (Nat.le_refl _) _) hb.bl.size)
          -- 13: Op.store 24 (Operand.tmp 10) (Operand.tmp 38)
          refine RC.ls_gen (MPfi wr.heap.size 24 RA) ?_ ?_
          · intro x w' hb hj hpre K hK
            have p0 := hpre.1 rfl
            have p1 := hpre.2.1 rfl
            clear hpre
            simp [RC.phi, MPbo] at p0
            simp [RC.phi, RC.MP.val] at p1
            obtain ⟨q9, hq, hBq, cs, hsz, hy⟩ := p0
            rw [HA.out] at hsz
            obtain ⟨y1, y2, y3, y4, y5, rfl⟩ := arr5 hsz
            obtain ⟨⟨d0, d1', d2', d3', d4'⟩, e0', e1', e2', e3', e4'⟩ := hy.five
            have hp := RE.put5 (B := wr.heap.size) HA.out hy hBq
            simp only [frL, Act.put, List.setIfInBounds_toArray, List.set_cons_zero, List.set_cons_succ, Nat.zero_add, Nat.reduceAdd, hq, p1] at hK ⊢
            have HK := Lib.hid hK
            clear hK
            refine Held.mk ?_
            go_simp
            exact HK.out (.pointer (some ⟨q9, 0, none⟩)) _ ⟨q9, rfl, hBq, hp.2⟩ (JE.put hq rfl) hp.1
          intro x w' hb hp hJ
          simp only [List.cons_append, List.nil_append, RC.phis, RC.MP.val, frL, Act.put, List.setIfInBounds_toArray, List.set_cons_zero, List.set_cons_succ, Nat.zero_add, Nat.reduceAdd] at hp ⊢
          obtain ⟨h0, h1, h2, h3, h4, h5, h6, h7, h8, h9, h10, h11, h12, h13, -⟩ := hp
          simp only [h0, h1, h2, h3, h4, h5, h6, h7, h8, h9, h10, h11]
          clear h0 h1 h2 h3 h4 h5 h6 h7 h8 h9 h10 h11
          obtain ⟨qx, hq, hBq, hBl⟩ : ∃ q, x 13 = .pointer (some ⟨q, 0, none⟩) ∧ wr.heap.size ≤ q ∧ Blk w' q RA 24 := h13
          have hq12 := hJ qx hq
          rw [HA.out] at hBl
          obtain ⟨W1, hW1⟩ : ∃ W1, W1 = w' := ⟨_, rfl⟩
          subst hW1
          have hw1 := hwi.trans (hb.bl.mono hwi.size)
          simp only [hq12]
          replace y0 := (hb.bl.cell (p := ⟨b, o + j * 5, none⟩) lb).trans y0
          replace y1 := (hb.bl.cell (p := ⟨b, o + j * 5 + 1, none⟩) lb).trans y1
          replace y2 := (hb.bl.cell (p := ⟨b, o + j * 5 + 2, none⟩) lb).trans y2
          replace y3 := (hb.bl.cell (p := ⟨b, o + j * 5 + 3, none⟩) lb).trans y3
          replace y4 := (hb.bl.cell (p := ⟨b, o + j * 5 + 4, none⟩) lb).trans y4
          replace z0 := (hb.bl.cell (p := ⟨b2, o2 + i * 5, none⟩) lb2).trans z0
          replace z1 := (hb.bl.cell (p := ⟨b2, o2 + i * 5 + 1, none⟩) lb2).trans z1
          replace z2 := (hb.bl.cell (p := ⟨b2, o2 + i * 5 + 2, none⟩) lb2).trans z2
          replace z3 := (hb.bl.cell (p := ⟨b2, o2 + i * 5 + 3, none⟩) lb2).trans z3
          replace z4 := (hb.bl.cell (p := ⟨b2, o2 + i * 5 + 4, none⟩) lb2).trans z4
          have lb := Nat.lt_of_lt_of_le lb hb.bl.size
          have lb2 := Nat.lt_of_lt_of_le lb2 hb.bl.size
          clear h12 hJ hq hb hq12 HA x
          have kBl := hBl.lt
          cases e1 : (r1 != 0)
          · have hp := HP.out
            rw [e1] at hp
            have HP := Lib.hid (show (if (r2 != 0) = true then (false, r2) else (oe == 0 && holdF O on, oe)) = (PV, PR) from hp)
            clear hp
            go_wp2_with fail
            obtain ⟨RB, hRB⟩ : ∃ RB : Array Value, RB = #[.int .i64 yk, .int .i64 yn, .int .i64 ys', .string yt, .bool yb] := ⟨_, rfl⟩
            have HB := Lib.hid hRB
            clear hRB
            refine RC.region_steps (R := RE W1.heap.size 24 RB) 14 [some 44, some 45, some 46, some 47, some 48, some 49, some 50, some 51, some 52, some 43, some 53, some 54, some 12, none] (JE 12 13) RE.trans RE.drew (fun w9 => fun q hq => by simp [orig, undef] at hq) (by kernel_rfl) (by kernel_rfl) ?_
            -- 0: Op.move (Operand.tmp 2)
            apply RC.ls_val (JE.step (by decide))
            · intro x w' hb hpre K hK
              have y'0 := (hb.bl.cell (p := ⟨b, o + j * 5, none⟩) lb).trans y0
              have y'1 := (hb.bl.cell (p := ⟨b, o + j * 5 + 1, none⟩) lb).trans y1
              have y'2 := (hb.bl.cell (p := ⟨b, o + j * 5 + 2, none⟩) lb).trans y2
              have y'3 := (hb.bl.cell (p := ⟨b, o + j * 5 + 3, none⟩) lb).trans y3
              have y'4 := (hb.bl.cell (p := ⟨b, o + j * 5 + 4, none⟩) lb).trans y4
              have z'0 := (hb.bl.cell (p := ⟨b2, o2 + i * 5, none⟩) lb2).trans z0
              have z'1 := (hb.bl.cell (p := ⟨b2, o2 + i * 5 + 1, none⟩) lb2).trans z1
              have z'2 := (hb.bl.cell (p := ⟨b2, o2 + i * 5 + 2, none⟩) lb2).trans z2
              have z'3 := (hb.bl.cell (p := ⟨b2, o2 + i * 5 + 3, none⟩) lb2).trans z3
              have z'4 := (hb.bl.cell (p := ⟨b2, o2 + i * 5 + 4, none⟩) lb2).trans z4
              clear hpre
              simp only [frL, Act.put, List.setIfInBounds_toArray, List.set_cons_zero, List.set_cons_succ, Nat.zero_add, Nat.reduceAdd] at hK ⊢
              have HK := Lib.hid hK
              clear hK
              refine Held.mk ?_
              go_simp
              exact HK.out _ (RE.refl _)
            -- 1: Op.move (Operand.tmp 9)
            apply RC.ls_val (JE.step (by decide))
            · intro x w' hb hpre K hK
              have y'0 := (hb.bl.cell (p := ⟨b, o + j * 5, none⟩) lb).trans y0
              have y'1 := (hb.bl.cell (p := ⟨b, o + j * 5 + 1, none⟩) lb).trans y1
              have y'2 := (hb.bl.cell (p := ⟨b, o + j * 5 + 2, none⟩) lb).trans y2
              have y'3 := (hb.bl.cell (p := ⟨b, o + j * 5 + 3, none⟩) lb).trans y3
              have y'4 := (hb.bl.cell (p := ⟨b, o + j * 5 + 4, none⟩) lb).trans y4
              have z'0 := (hb.bl.cell (p := ⟨b2, o2 + i * 5, none⟩) lb2).trans z0
              have z'1 := (hb.bl.cell (p := ⟨b2, o2 + i * 5 + 1, none⟩) lb2).trans z1
              have z'2 := (hb.bl.cell (p := ⟨b2, o2 + i * 5 + 2, none⟩) lb2).trans z2
              have z'3 := (hb.bl.cell (p := ⟨b2, o2 + i * 5 + 3, none⟩) lb2).trans z3
              have z'4 := (hb.bl.cell (p := ⟨b2, o2 + i * 5 + 4, none⟩) lb2).trans z4
              clear hpre
              simp only [frL, Act.put, List.setIfInBounds_toArray, List.set_cons_zero, List.set_cons_succ, Nat.zero_add, Nat.reduceAdd] at hK ⊢
              have HK := Lib.hid hK
              clear hK
              refine Held.mk ?_
              go_simp
              exact HK.out _ (RE.refl _)
            -- 2: Op.indexAddr 46 (Operand.tmp 44) (Operand.tmp 45)
            apply RC.ls_val (JE.step (by decide))
            · intro x w' hb hpre K hK
              have y'0 := (hb.bl.cell (p := ⟨b, o + j * 5, none⟩) lb).trans y0
              have y'1 := (hb.bl.cell (p := ⟨b, o + j * 5 + 1, none⟩) lb).trans y1
              have y'2 := (hb.bl.cell (p := ⟨b, o + j * 5 + 2, none⟩) lb).trans y2
              have y'3 := (hb.bl.cell (p := ⟨b, o + j * 5 + 3, none⟩) lb).trans y3
              have y'4 := (hb.bl.cell (p := ⟨b, o + j * 5 + 4, none⟩) lb).trans y4
              have z'0 := (hb.bl.cell (p := ⟨b2, o2 + i * 5, none⟩) lb2).trans z0
              have z'1 := (hb.bl.cell (p := ⟨b2, o2 + i * 5 + 1, none⟩) lb2).trans z1
              have z'2 := (hb.bl.cell (p := ⟨b2, o2 + i * 5 + 2, none⟩) lb2).trans z2
              have z'3 := (hb.bl.cell (p := ⟨b2, o2 + i * 5 + 3, none⟩) lb2).trans z3
              have z'4 := (hb.bl.cell (p := ⟨b2, o2 + i * 5 + 4, none⟩) lb2).trans z4
              simp [preds, Region.binds, RC.phi, RC.MP.val] at hpre
              simp only [frL, Act.put, List.setIfInBounds_toArray, List.set_cons_zero, List.set_cons_succ, Nat.zero_add, Nat.reduceAdd, hpre] at hK ⊢
              have HK := Lib.hid hK
              clear hK
              refine Held.mk ?_
              go_simp
              exact HK.out _ (RE.refl _)
            -- 3: Op.load 24 (Operand.tmp 46)
            apply RC.ls_val (JE.step (by decide))
            · intro x w' hb hpre K hK
              have y'0 := (hb.bl.cell (p := ⟨b, o + j * 5, none⟩) lb).trans y0
              have y'1 := (hb.bl.cell (p := ⟨b, o + j * 5 + 1, none⟩) lb).trans y1
              have y'2 := (hb.bl.cell (p := ⟨b, o + j * 5 + 2, none⟩) lb).trans y2
              have y'3 := (hb.bl.cell (p := ⟨b, o + j * 5 + 3, none⟩) lb).trans y3
              have y'4 := (hb.bl.cell (p := ⟨b, o + j * 5 + 4, none⟩) lb).trans y4
              have z'0 := (hb.bl.cell (p := ⟨b2, o2 + i * 5, none⟩) lb2).trans z0
              have z'1 := (hb.bl.cell (p := ⟨b2, o2 + i * 5 + 1, none⟩) lb2).trans z1
              have z'2 := (hb.bl.cell (p := ⟨b2, o2 + i * 5 + 2, none⟩) lb2).trans z2
              have z'3 := (hb.bl.cell (p := ⟨b2, o2 + i * 5 + 3, none⟩) lb2).trans z3
              have z'4 := (hb.bl.cell (p := ⟨b2, o2 + i * 5 + 4, none⟩) lb2).trans z4
              simp [preds, Region.binds, RC.phi, RC.MP.val] at hpre
              simp only [frL, Act.put, List.setIfInBounds_toArray, List.set_cons_zero, List.set_cons_succ, Nat.zero_add, Nat.reduceAdd, hpre] at hK ⊢
              have HK := Lib.hid hK
              clear hK
              refine Held.mk ?_
              go_simp
              exact HK.out _ (RE.refl _)
            -- 4: Op.move (Operand.tmp 1)
            apply RC.ls_val (JE.step (by decide))
            · intro x w' hb hpre K hK
              have y'0 := (hb.bl.cell (p := ⟨b, o + j * 5, none⟩) lb).trans y0
              have y'1 := (hb.bl.cell (p := ⟨b, o + j * 5 + 1, none⟩) lb).trans y1
              have y'2 := (hb.bl.cell (p := ⟨b, o + j * 5 + 2, none⟩) lb).trans y2
              have y'3 := (hb.bl.cell (p := ⟨b, o + j * 5 + 3, none⟩) lb).trans y3
              have y'4 := (hb.bl.cell (p := ⟨b, o + j * 5 + 4, none⟩) lb).trans y4
              have z'0 := (hb.bl.cell (p := ⟨b2, o2 + i * 5, none⟩) lb2).trans z0
              have z'1 := (hb.bl.cell (p := ⟨b2, o2 + i * 5 + 1, none⟩) lb2).trans z1
              have z'2 := (hb.bl.cell (p := ⟨b2, o2 + i * 5 + 2, none⟩) lb2).trans z2
              have z'3 := (hb.bl.cell (p := ⟨b2, o2 + i * 5 + 3, none⟩) lb2).trans z3
              have z'4 := (hb.bl.cell (p := ⟨b2, o2 + i * 5 + 4, none⟩) lb2).trans z4
              clear hpre
              simp only [frL, Act.put, List.setIfInBounds_toArray, List.set_cons_zero, List.set_cons_succ, Nat.zero_add, Nat.reduceAdd] at hK ⊢
              have HK := Lib.hid hK
              clear hK
              refine Held.mk ?_
              go_simp
              exact HK.out _ (RE.refl _)
            -- 5: Op.move (Operand.tmp 8)
            apply RC.ls_val (JE.step (by decide))
            · intro x w' hb hpre K hK
              have y'0 := (hb.bl.cell (p := ⟨b, o + j * 5, none⟩) lb).trans y0
              have y'1 := (hb.bl.cell (p := ⟨b, o + j * 5 + 1, none⟩) lb).trans y1
              have y'2 := (hb.bl.cell (p := ⟨b, o + j * 5 + 2, none⟩) lb).trans y2
              have y'3 := (hb.bl.cell (p := ⟨b, o + j * 5 + 3, none⟩) lb).trans y3
              have y'4 := (hb.bl.cell (p := ⟨b, o + j * 5 + 4, none⟩) lb).trans y4
              have z'0 := (hb.bl.cell (p := ⟨b2, o2 + i * 5, none⟩) lb2).trans z0
              have z'1 := (hb.bl.cell (p := ⟨b2, o2 + i * 5 + 1, none⟩) lb2).trans z1
              have z'2 := (hb.bl.cell (p := ⟨b2, o2 + i * 5 + 2, none⟩) lb2).trans z2
              have z'3 := (hb.bl.cell (p := ⟨b2, o2 + i * 5 + 3, none⟩) lb2).trans z3
              have z'4 := (hb.bl.cell (p := ⟨b2, o2 + i * 5 + 4, none⟩) lb2).trans z4
              clear hpre
              simp only [frL, Act.put, List.setIfInBounds_toArray, List.set_cons_zero, List.set_cons_succ, Nat.zero_add, Nat.reduceAdd] at hK ⊢
              have HK := Lib.hid hK
              clear hK
              refine Held.mk ?_
              go_simp
              exact HK.out _ (RE.refl _)
            -- 6: Op.indexAddr 46 (Operand.tmp 48) (Operand.tmp 49)
            apply RC.ls_val (JE.step (by decide))
            · intro x w' hb hpre K hK
              have y'0 := (hb.bl.cell (p := ⟨b, o + j * 5, none⟩) lb).trans y0
              have y'1 := (hb.bl.cell (p := ⟨b, o + j * 5 + 1, none⟩) lb).trans y1
              have y'2 := (hb.bl.cell (p := ⟨b, o + j * 5 + 2, none⟩) lb).trans y2
              have y'3 := (hb.bl.cell (p := ⟨b, o + j * 5 + 3, none⟩) lb).trans y3
              have y'4 := (hb.bl.cell (p := ⟨b, o + j * 5 + 4, none⟩) lb).trans y4
              have z'0 := (hb.bl.cell (p := ⟨b2, o2 + i * 5, none⟩) lb2).trans z0
              have z'1 := (hb.bl.cell (p := ⟨b2, o2 + i * 5 + 1, none⟩) lb2).trans z1
              have z'2 := (hb.bl.cell (p := ⟨b2, o2 + i * 5 + 2, none⟩) lb2).trans z2
              have z'3 := (hb.bl.cell (p := ⟨b2, o2 + i * 5 + 3, none⟩) lb2).trans z3
              have z'4 := (hb.bl.cell (p := ⟨b2, o2 + i * 5 + 4, none⟩) lb2).trans z4
              simp [preds, Region.binds, RC.phi, RC.MP.val] at hpre
              simp only [frL, Act.put, List.setIfInBounds_toArray, List.set_cons_zero, List.set_cons_succ, Nat.zero_add, Nat.reduceAdd, hpre] at hK ⊢
              have HK := Lib.hid hK
              clear hK
              refine Held.mk ?_
              go_simp
              exact HK.out _ (RE.refl _)
            -- 7: Op.load 24 (Operand.tmp 50)
            apply RC.ls_val (JE.step (by decide))
            · intro x w' hb hpre K hK
              have y'0 := (hb.bl.cell (p := ⟨b, o + j * 5, none⟩) lb).trans y0
              have y'1 := (hb.bl.cell (p := ⟨b, o + j * 5 + 1, none⟩) lb).trans y1
              have y'2 := (hb.bl.cell (p := ⟨b, o + j * 5 + 2, none⟩) lb).trans y2
              have y'3 := (hb.bl.cell (p := ⟨b, o + j * 5 + 3, none⟩) lb).trans y3
              have y'4 := (hb.bl.cell (p := ⟨b, o + j * 5 + 4, none⟩) lb).trans y4
              have z'0 := (hb.bl.cell (p := ⟨b2, o2 + i * 5, none⟩) lb2).trans z0
              have z'1 := (hb.bl.cell (p := ⟨b2, o2 + i * 5 + 1, none⟩) lb2).trans z1
              have z'2 := (hb.bl.cell (p := ⟨b2, o2 + i * 5 + 2, none⟩) lb2).trans z2
              have z'3 := (hb.bl.cell (p := ⟨b2, o2 + i * 5 + 3, none⟩) lb2).trans z3
              have z'4 := (hb.bl.cell (p := ⟨b2, o2 + i * 5 + 4, none⟩) lb2).trans z4
              simp [preds, Region.binds, RC.phi, RC.MP.val] at hpre
              simp only [frL, Act.put, List.setIfInBounds_toArray, List.set_cons_zero, List.set_cons_succ, Nat.zero_add, Nat.reduceAdd, hpre] at hK ⊢
              have HK := Lib.hid hK
              clear hK
              refine Held.mk ?_
              go_simp
              exact HK.out _ (RE.refl _)
            -- 8: Op.call { callee := Callee.value (Operand.func 60), args := #[Operand.tmp 47, Op
            apply RC.ls_val (JE.step (by decide))
            · intro x w' hb hpre K hK
              have y'0 := (hb.bl.cell (p := ⟨b, o + j * 5, none⟩) lb).trans y0
              have y'1 := (hb.bl.cell (p := ⟨b, o + j * 5 + 1, none⟩) lb).trans y1
              have y'2 := (hb.bl.cell (p := ⟨b, o + j * 5 + 2, none⟩) lb).trans y2
              have y'3 := (hb.bl.cell (p := ⟨b, o + j * 5 + 3, none⟩) lb).trans y3
              have y'4 := (hb.bl.cell (p := ⟨b, o + j * 5 + 4, none⟩) lb).trans y4
              have z'0 := (hb.bl.cell (p := ⟨b2, o2 + i * 5, none⟩) lb2).trans z0
              have z'1 := (hb.bl.cell (p := ⟨b2, o2 + i * 5 + 1, none⟩) lb2).trans z1
              have z'2 := (hb.bl.cell (p := ⟨b2, o2 + i * 5 + 2, none⟩) lb2).trans z2
              have z'3 := (hb.bl.cell (p := ⟨b2, o2 + i * 5 + 3, none⟩) lb2).trans z3
              have z'4 := (hb.bl.cell (p := ⟨b2, o2 + i * 5 + 4, none⟩) lb2).trans z4
              simp [preds, Region.binds, RC.phi, RC.MP.val] at hpre
              simp only [frL, Act.put, List.setIfInBounds_toArray, List.set_cons_zero, List.set_cons_succ, Nat.zero_add, Nat.reduceAdd, hpre] at hK ⊢
              have HK := Lib.hid hK
              clear hK
              refine Held.mk ?_
              go_simp
              (with_reducible refine (BY.out _).mono ?_)
              rintro e w1 ⟨rfl, hb1⟩
              dsimp only
              exact HK.out _ (RE.ofBelow hb1 hb.bl.size)
            -- 9: Op.move (Operand.tmp 52)
            apply RC.ls_val (JE.step (by decide))
            · intro x w' hb hpre K hK
              have y'0 := (hb.bl.cell (p := ⟨b, o + j * 5, none⟩) lb).trans y0
              have y'1 := (hb.bl.cell (p := ⟨b, o + j * 5 + 1, none⟩) lb).trans y1
              have y'2 := (hb.bl.cell (p := ⟨b, o + j * 5 + 2, none⟩) lb).trans y2
              have y'3 := (hb.bl.cell (p := ⟨b, o + j * 5 + 3, none⟩) lb).trans y3
              have y'4 := (hb.bl.cell (p := ⟨b, o + j * 5 + 4, none⟩) lb).trans y4
              have z'0 := (hb.bl.cell (p := ⟨b2, o2 + i * 5, none⟩) lb2).trans z0
              have z'1 := (hb.bl.cell (p := ⟨b2, o2 + i * 5 + 1, none⟩) lb2).trans z1
              have z'2 := (hb.bl.cell (p := ⟨b2, o2 + i * 5 + 2, none⟩) lb2).trans z2
              have z'3 := (hb.bl.cell (p := ⟨b2, o2 + i * 5 + 3, none⟩) lb2).trans z3
              have z'4 := (hb.bl.cell (p := ⟨b2, o2 + i * 5 + 4, none⟩) lb2).trans z4
              simp [preds, Region.binds, RC.phi, RC.MP.val] at hpre
              simp only [frL, Act.put, List.setIfInBounds_toArray, List.set_cons_zero, List.set_cons_succ, Nat.zero_add, Nat.reduceAdd, hpre] at hK ⊢
              have HK := Lib.hid hK
              clear hK
              refine Held.mk ?_
              go_simp
              exact HK.out _ (RE.refl _)
            -- 10: Op.extract (Operand.tmp 43) 0
            apply RC.ls_val (JE.step (by decide))
            · intro x w' hb hpre K hK
              have y'0 := (hb.bl.cell (p := ⟨b, o + j * 5, none⟩) lb).trans y0
              have y'1 := (hb.bl.cell (p := ⟨b, o + j * 5 + 1, none⟩) lb).trans y1
              have y'2 := (hb.bl.cell (p := ⟨b, o + j * 5 + 2, none⟩) lb).trans y2
              have y'3 := (hb.bl.cell (p := ⟨b, o + j * 5 + 3, none⟩) lb).trans y3
              have y'4 := (hb.bl.cell (p := ⟨b, o + j * 5 + 4, none⟩) lb).trans y4
              have z'0 := (hb.bl.cell (p := ⟨b2, o2 + i * 5, none⟩) lb2).trans z0
              have z'1 := (hb.bl.cell (p := ⟨b2, o2 + i * 5 + 1, none⟩) lb2).trans z1
              have z'2 := (hb.bl.cell (p := ⟨b2, o2 + i * 5 + 2, none⟩) lb2).trans z2
              have z'3 := (hb.bl.cell (p := ⟨b2, o2 + i * 5 + 3, none⟩) lb2).trans z3
              have z'4 := (hb.bl.cell (p := ⟨b2, o2 + i * 5 + 4, none⟩) lb2).trans z4
              simp [preds, Region.binds, RC.phi, RC.MP.val] at hpre
              simp only [frL, Act.put, List.setIfInBounds_toArray, List.set_cons_zero, List.set_cons_succ, Nat.zero_add, Nat.reduceAdd, hpre] at hK ⊢
              have HK := Lib.hid hK
              clear hK
              refine Held.mk ?_
              go_simp
              exact HK.out _ (RE.refl _)
            -- 11: Op.extract (Operand.tmp 43) 1
            apply RC.ls_val (JE.step (by decide))
            · intro x w' hb hpre K hK
              have y'0 := (hb.bl.cell (p := ⟨b, o + j * 5, none⟩) lb).trans y0
              have y'1 := (hb.bl.cell (p := ⟨b, o + j * 5 + 1, none⟩) lb).trans y1
              have y'2 := (hb.bl.cell (p := ⟨b, o + j * 5 + 2, none⟩) lb).trans y2
              have y'3 := (hb.bl.cell (p := ⟨b, o + j * 5 + 3, none⟩) lb).trans y3
              have y'4 := (hb.bl.cell (p := ⟨b, o + j * 5 + 4, none⟩) lb).trans y4
              have z'0 := (hb.bl.cell (p := ⟨b2, o2 + i * 5, none⟩) lb2).trans z0
              have z'1 := (hb.bl.cell (p := ⟨b2, o2 + i * 5 + 1, none⟩) lb2).trans z1
              have z'2 := (hb.bl.cell (p := ⟨b2, o2 + i * 5 + 2, none⟩) lb2).trans z2
              have z'3 := (hb.bl.cell (p := ⟨b2, o2 + i * 5 + 3, none⟩) lb2).trans z3
              have z'4 := (hb.bl.cell (p := ⟨b2, o2 + i * 5 + 4, none⟩) lb2).trans z4
              simp [preds, Region.binds, RC.phi, RC.MP.val] at hpre
              simp only [frL, Act.put, List.setIfInBounds_toArray, List.set_cons_zero, List.set_cons_succ, Nat.zero_add, Nat.reduceAdd, hpre] at hK ⊢
              have HK := Lib.hid hK
              clear hK
              refine Held.mk ?_
              go_simp
              exact HK.out _ (RE.refl _)
            -- 12: Op.alloc 24
            refine RC.ls_genO (MPbo W1.heap.size 24 RB) ?_ ?_
            · intro x w' hb hj hpre ho K hK
              have ho13 : ∀ q, x 13 ≠ .pointer (some ⟨q, 0, none⟩) := fun q hq => by rw [ho 13 (by omega) (by kernel_rfl)] at hq; simp [orig, undef] at hq
              clear ho
              have y'0 := (hb.bl.cell (p := ⟨b, o + j * 5, none⟩) lb).trans y0
              have y'1 := (hb.bl.cell (p := ⟨b, o + j * 5 + 1, none⟩) lb).trans y1
              have y'2 := (hb.bl.cell (p := ⟨b, o + j * 5 + 2, none⟩) lb).trans y2
              have y'3 := (hb.bl.cell (p := ⟨b, o + j * 5 + 3, none⟩) lb).trans y3
              have y'4 := (hb.bl.cell (p := ⟨b, o + j * 5 + 4, none⟩) lb).trans y4
              have z'0 := (hb.bl.cell (p := ⟨b2, o2 + i * 5, none⟩) lb2).trans z0
              have z'1 := (hb.bl.cell (p := ⟨b2, o2 + i * 5 + 1, none⟩) lb2).trans z1
              have z'2 := (hb.bl.cell (p := ⟨b2, o2 + i * 5 + 2, none⟩) lb2).trans z2
              have z'3 := (hb.bl.cell (p := ⟨b2, o2 + i * 5 + 3, none⟩) lb2).trans z3
              have z'4 := (hb.bl.cell (p := ⟨b2, o2 + i * 5 + 4, none⟩) lb2).trans z4
              clear hpre
              simp only [frL, Act.put, List.setIfInBounds_toArray, List.set_cons_zero, List.set_cons_succ, Nat.zero_add, Nat.reduceAdd] at hK ⊢
              have HK := Lib.hid hK
              clear hK
              refine Held.mk ?_
              go_simp
              exact HK.out _ _ ⟨_, _, rfl, hb.bl.size, by rw [HB.out]; rfl, Blk.new _ _ _⟩ (JE.make ho13 rfl _) (RE.ofBelow ((Below.refl _ _).alloc (Nat.le_refl _) _) hb.bl.size)
            -- 13: Op.store 24 (Operand.tmp 12) (Operand.tmp 53)
            refine RC.ls_gen (MPfi W1.heap.size 24 RB) ?_ ?_
            · intro x w' hb hj hpre K hK
              have p0 := hpre.1 rfl
              have p1 := hpre.2.1 rfl
              clear hpre
              simp [RC.phi, MPbo] at p0
              simp [RC.phi, RC.MP.val] at p1
              obtain ⟨q9, hq, hBq, cs, hsz, hy⟩ := p0
              rw [HB.out] at hsz
              obtain ⟨y1, y2, y3, y4, y5, rfl⟩ := arr5 hsz
              obtain ⟨⟨d0, d1', d2', d3', d4'⟩, e0', e1', e2', e3', e4'⟩ := hy.five
              have hp := RE.put5 (B := W1.heap.size) HB.out hy hBq
              simp only [frL, Act.put, List.setIfInBounds_toArray, List.set_cons_zero, List.set_cons_succ, Nat.zero_add, Nat.reduceAdd, hq, p1] at hK ⊢
              have HK := Lib.hid hK
              clear hK
              refine Held.mk ?_
              go_simp
              exact HK.out (.pointer (some ⟨q9, 0, none⟩)) _ ⟨q9, rfl, hBq, hp.2⟩ (JE.put hq rfl) hp.1
            intro x w' hb hp hJ
            simp only [List.cons_append, List.nil_append, RC.phis, RC.MP.val, frL, Act.put, List.setIfInBounds_toArray, List.set_cons_zero, List.set_cons_succ, Nat.zero_add, Nat.reduceAdd] at hp ⊢
            obtain ⟨h0, h1, h2, h3, h4, h5, h6, h7, h8, h9, h10, h11, h12, h13, -⟩ := hp
            simp only [h0, h1, h2, h3, h4, h5, h6, h7, h8, h9, h10, h11]
            clear h0 h1 h2 h3 h4 h5 h6 h7 h8 h9 h10 h11
            obtain ⟨qy, hq, hBq2, hCl⟩ : ∃ q, x 13 = .pointer (some ⟨q, 0, none⟩) ∧ W1.heap.size ≤ q ∧ Blk w' q RB 24 := h13
            have hq12 := hJ qy hq
            rw [HB.out] at hCl
            obtain ⟨W2, hW2⟩ : ∃ W2, W2 = w' := ⟨_, rfl⟩
            subst hW2
            have hw2 := hw1.trans (hb.bl.mono hw1.size)
            have hBl := hBl.below hb.bl kBl
            simp only [hq12]
            clear h12 hJ hq hb hq12 HB x y0 y1 y2 y3 y4 z0 z1 z2 z3 z4 lb lb2 kBl
            cases e2 : (r2 != 0)
            · have hp := HP.out
              rw [e2] at hp
              have HP := Lib.hid (show (oe == 0 && holdF O on, oe) = (PV, PR) from hp)
              clear hp
              have CO := Lib.hid (ROr.out (by simpa using e1) (by simpa using e2))
              obtain ⟨⟨b0, b1, b2', b3, b4⟩, -⟩ := hBl.five
              obtain ⟨⟨d0, d1, d2, d3, d4⟩, -⟩ := hCl.five
              cases e3 : (oe != 0)
              · obtain rfl : oe = 0 := by simpa using e3
                cases e4 : holdF O on
                · have H3 := out_on (HP.out.symm.trans (by rw [e4]; rfl)) HE.out
                  have HE2 := Lib.hid H3
                  rw [e4] at HH
                  clear H3 HE HP
                  go_wp2_with (first
                    | (go_at_call 37; with_reducible refine (CO.out _).mono ?_; rintro e w5 ⟨rfl, hb5⟩
                       have hw5 := hw2.trans (hb5.mono hw2.size)
                       clear b0 b1 b2' b3 b4 d0 d1 d2 d3 d4 hBl hCl)
                    | (go_at_call 39; with_reducible refine (rholds_any _ _ _).mono ?_; rintro e w6 ⟨rfl, rfl⟩
                       rw [HH.out]))
                  go_roundg (gk - 1)
                  case measure => omega
                  case rel => exact ⟨i + 1, by omega, by omega, by go_num, hw5, HE2⟩
                · obtain ⟨g1, g2⟩ := out_hit (HP.out.symm.trans (by rw [e4]; rfl)) HE.out HD3.out
                  subst g1 g2
                  rw [e4] at HH
                  clear HE HP HD3 HG
                  go_wp2_with (first
                    | (go_at_call 37; with_reducible refine (CO.out _).mono ?_; rintro e w5 ⟨rfl, hb5⟩
                       have hw5 := hw2.trans (hb5.mono hw2.size)
                       clear b0 b1 b2' b3 b4 d0 d1 d2 d3 d4 hBl hCl)
                    | (go_at_call 39; with_reducible refine (rholds_any _ _ _).mono ?_; rintro e w6 ⟨rfl, rfl⟩
                       rw [HH.out]))
                  go_ret2
                  exact ⟨rfl, hw5⟩
              · have e5 : (oe == 0) = false := by simpa using e3
                obtain ⟨g1, g2⟩ := out_err oe e3 (HP.out.symm.trans (by rw [e5]; rfl)) HE.out HD3.out
                subst g1 g2
                clear HE HP HD3 HG HH
                go_wp2_with (go_at_call 37; with_reducible refine (CO.out _).mono ?_; rintro e w5 ⟨rfl, hb5⟩
                             have hw5 := hw2.trans (hb5.mono hw2.size)
                             clear b0 b1 b2' b3 b4 d0 d1 d2 d3 d4 hBl hCl)
                go_ret2
                exact ⟨rfl, hw5⟩
            · have hp := HP.out
              rw [e2] at hp
              obtain ⟨g1, g2⟩ := out_err r2 e2 (show (PV, PR) = (false, r2) from hp.symm) HE.out HD3.out
              subst g1 g2
              clear HE HP HD3 HG HH hp ROr
              go_wp2_with fail
              go_ret2
              exact ⟨rfl, hw2⟩
          · have hp := HP.out
            rw [e1] at hp
            obtain ⟨g1, g2⟩ := out_err r1 e1 (show (PV, PR) = (false, r1) from hp.symm) HE.out HD3.out
            subst g1 g2
            clear HE HP HD3 HG HH hp ROr
            go_wp2_with fail
            go_ret2
            exact ⟨rfl, hw1⟩
        · have i1 : decide ((i : Int) < (ys.length : Int)) = false := by simp; omega
          have he := HE.out
          rw [List.drop_eq_nil_of_le (by omega)] at he
          obtain ⟨f1, f2⟩ := Prod.mk.inj (show ((false, 0) : Bool × Int) = (RV, RR) from he)
          subst f1 f2
          have h3 := HD3.out
          have H3 := Lib.hid (show genF O (xs.drop (j + 1)) ys = (GV, GR) from h3)
          clear he h3 HD3 HE
          go_wp2_with fail
          go_roundg (G - 1)
          case measure => omega
          case rel => exact ⟨j + 1, by omega, by omega, by go_num, hwi, H3⟩
    · have i0 : decide ((j : Int) < (xs.length : Int)) = false := by simp; omega
      have hd := HD.out
      rw [List.drop_eq_nil_of_le (by omega)] at hd
      obtain ⟨g1, g2⟩ := Prod.mk.inj (show ((false, 0) : Bool × Int) = (GV, GR) from hd)
      subst g1 g2
      clear hd HD HG
      go_wp2_with fail
      go_ret2
      exact ⟨rfl, hw⟩
end Go.Proofs.YtaoobajokhcimaaGreatDoor

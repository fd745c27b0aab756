/- The document's reading of a number. -/
import Derived.Test.YtaoobajokhcimaaGreatDoorMgD
import Derived.Test.YtaoobajokhcimaaGreatDoorMgA
import Derived.Test.YtaoobajokhcimaaGreatDoorWaL
set_option linter.unusedSimpArgs false
set_option linter.unusedVariables false
set_option linter.constructorNameAsVariable false
namespace Go.Proofs.YtaoobajokhcimaaGreatDoor
open Go.RowKit

theorem scan_step (c : UInt8) (r : List UInt8) (d : List Int) (pt z : Int) (hz : (c.toNat : Int) = z) : scanF (c :: r) d pt = if (z == 46) && decide (pt < 0) then scanF r d d.length else if decide (z < 48) || decide (57 < z) then none else scanF r (d ++ [z - 48]) pt := by
  have e1 : (c.toNat == 46) = (z == 46) := by rw [Bool.eq_iff_iff]; simp; omega
  have e2 : decide (c.toNat < 48) = decide (z < 48) := by rw [Bool.eq_iff_iff]; simp; omega
  have e3 : decide (57 < c.toNat) = decide (57 < z) := by rw [Bool.eq_iff_iff]; simp; omega
  rw [scanF, e1, e2, e3]
  unfold dig
  rw [hz]
theorem ba_size (B : List UInt8) : (⟨B.toArray⟩ : ByteArray).size = B.length := by
  show B.toArray.size = _
  simp
theorem ba_at (B : List UInt8) (i : Nat) (h : i < (⟨B.toArray⟩ : ByteArray).size) (c : UInt8) (hc : B[i]? = some c) : ((⟨B.toArray⟩ : ByteArray)[i]'h) = c := by
  have h' : i < B.length := by rw [ba_size] at h; exact h
  rw [List.getElem?_eq_getElem h'] at hc
  cases hc
  rfl
set_option maxRecDepth 100000 in
set_option maxHeartbeats 1000000 in
theorem rparse_any (l : List UInt8) (hl : l.length ≤ 2000000) (w : World) : Calls Tryz.prog 56 #[.string ⟨l.toArray⟩] w fun e w' =>
    e = .returned (.tuple #[.int .i64 (parseF l).1, .int .i64 (parseF l).2.1, .int .i64 (parseF l).2.2]) ∧ Below w.heap.size w w' := by
  obtain ⟨r1, r2, r3, hr⟩ : ∃ r1 r2 r3, docF (signF l).1 (scanF (signF l).2 [] (-1)) = (r1, r2, r3) := ⟨_, _, _, rfl⟩
  rw [← parse_doc l, hr]
  have HR := Lib.hid hr
  clear hr
  have hz := ba_size l
  rcases (show l = [] ∨ ∃ c0 r, l = c0 :: r from by cases l with | nil => exact .inl rfl | cons a b => exact .inr ⟨a, b, rfl⟩) with h0 | ⟨c0, r, h0⟩
  · have hsg : signF l = (false, l) := by rw [h0]; rfl
    have hl0 : l.length = 0 := by rw [h0]; rfl
    have HS := Lib.hid hsg
    have i0 : decide ((0 : Int) < (l.length : Int)) = false := by simp; omega
    clear h0 hsg
    go_enter Tryz.func56, Tryz.ntmps56
    go_wp2_with fail
    go_loopg [6, 7, 8] (l.length) (fun m dv pv iv wr => ∃ (i : Nat) (ds : List Int) (pt : Int), m + i = l.length ∧ iv = .int .i64 (i : Int) ∧ pv = .int .i64 pt ∧ ORow wr w.heap.size dv ds ∧ Dg ds ∧ ds.length ≤ i ∧ -1 ≤ pt ∧ pt ≤ ds.length ∧ scanF l [] (-1) = scanF (l.drop i) ds pt ∧ Below w.heap.size w wr)
    case atStart => exact ⟨0, [], -1, by omega, rfl, rfl, ORow.nil _ _, Dg.nil, by simp, by omega, by simp, rfl, Below.refl _ _⟩
    case round =>
      obtain ⟨i, ds, pt, hm, rfl, rfl, hO, gd, hdl, hp0, hp1, hsc, hwr⟩ := hrel
      have hi0 : (0 : Int) ≤ (i : Int) := Int.natCast_nonneg _
      have j3 : IntKind.i64.wrap ((i : Int) + 1) = (i : Int) + 1 := IntWalk.i64_in _ (by omega)
      have H := Lib.hid hO
      have GD := Lib.hid gd
      obtain ⟨g, cc, rfl, hIr, hcc, hg0, -⟩ := hO.drow (by omega)
      clear hO gd
      have i1 : decide ((i : Int) < (l.length : Int)) = false := by simp; omega
      rw [List.drop_eq_nil_of_le (show l.length ≤ i by omega)] at hsc
      have hr := HR.out
      rw [HS.out] at hr
      simp only at hr
      rw [hsc] at hr
      simp only [scanF, docF] at hr
      have e0 : (ds.length == 0) = true := beq_iff_eq.2 (by omega)
      have e0' : ((ds.length : Int) == 0) = true := beq_iff_eq.2 (by omega)
      rw [e0] at hr
      simp only [if_true] at hr
      obtain ⟨rfl, rfl, rfl⟩ : r1 = 0 ∧ r2 = 0 ∧ r3 = 12 := by simpa [eq_comm] using hr
      clear hr hsc
      go_wp2_with fail
      go_returns
      exact ⟨rfl, hwr⟩
  · have hl0 : 0 < l.length := by rw [h0]; simp
    have hl1 : l[0]? = some c0 := by rw [h0]; rfl
    have hat0 := ba_at l 0 (by rw [ba_size]; exact hl0) c0 hl1
    have i0 : decide ((0 : Int) < (l.length : Int)) = true := by simp; omega
    have c0l := c0.toNat_lt
    have hsf : signF l = if c0.toNat == 45 then (true, r) else if c0.toNat == 43 then (false, r) else (false, l) := by rw [h0]; rfl
    have eX : (⟨l.toArray⟩ : ByteArray).extract 1 l.length = ⟨r.toArray⟩ := by rw [ba_drop l 1 _ rfl, h0]; rfl
    have hrl : r.length + 1 = l.length := by rw [h0]; rfl
    obtain ⟨z0, hz0⟩ : ∃ z : Int, (c0.toNat : Int) = z := ⟨_, rfl⟩
    have g45 : (c0.toNat == 45) = (z0 == 45) := by rw [Bool.eq_iff_iff]; simp; omega
    have g43 : (c0.toNat == 43) = (z0 == 43) := by rw [Bool.eq_iff_iff]; simp; omega
    rw [g45, g43] at hsf
    clear h0 hl1 g45 g43
    cases e45 : (z0 == 45)
    · cases e43 : (z0 == 43)
      · rw [e45, e43] at hsf
        simp only [Bool.false_eq_true, if_false] at hsf
        have HS := Lib.hid hsf
        clear hsf
        go_enter Tryz.func56, Tryz.ntmps56
        go_wp2_with fail
        go_loopg [6, 7, 8] (l.length) (fun m dv pv iv wr => ∃ (i : Nat) (ds : List Int) (pt : Int), m + i = l.length ∧ iv = .int .i64 (i : Int) ∧ pv = .int .i64 pt ∧ ORow wr w.heap.size dv ds ∧ Dg ds ∧ ds.length ≤ i ∧ -1 ≤ pt ∧ pt ≤ ds.length ∧ scanF l [] (-1) = scanF (l.drop i) ds pt ∧ Below w.heap.size w wr)
        case atStart => exact ⟨0, [], -1, by omega, rfl, rfl, ORow.nil _ _, Dg.nil, by simp, by omega, by simp, rfl, Below.refl _ _⟩
        case round =>
          obtain ⟨i, ds, pt, hm, rfl, rfl, hO, gd, hdl, hp0, hp1, hsc, hwr⟩ := hrel
          have hi0 : (0 : Int) ≤ (i : Int) := Int.natCast_nonneg _
          have j3 : IntKind.i64.wrap ((i : Int) + 1) = (i : Int) + 1 := IntWalk.i64_in _ (by omega)
          have H := Lib.hid hO
          have GD := Lib.hid gd
          obtain ⟨g, cc, rfl, hIr, hcc, hg0, -⟩ := hO.drow (by omega)
          clear hO gd
          by_cases hlt : i < l.length
          · have hltS : i < (⟨l.toArray⟩ : ByteArray).size := by rw [ba_size]; exact hlt
            have i1 : decide ((i : Int) < (l.length : Int)) = true := by simp; omega
            obtain ⟨c, hc⟩ : ∃ c, l[i]? = some c := ⟨l[i], by simp [hlt]⟩
            have hat := ba_at l i hltS c hc
            have hdr : l.drop i = c :: l.drop (i + 1) := by
              rw [List.getElem?_eq_getElem hlt] at hc
              rw [List.drop_eq_getElem_cons hlt, Option.some.inj hc]
            have c0 := c.toNat_lt
            obtain ⟨z, hz⟩ : ∃ z : Int, (c.toNat : Int) = z := ⟨_, rfl⟩
            have hz0 : 0 ≤ z ∧ z ≤ 255 := by omega
            rw [hdr, scan_step c _ _ _ z hz] at hsc
            clear hdr hc c0
            cases e1 : (z == 46) && decide (pt < 0)
            · cases e2 : decide (z < 48) || decide (57 < z)
              · rw [e1, e2] at hsc
                simp only [Bool.false_eq_true, if_false] at hsc
                have HSC := Lib.hid hsc
                have e3 : decide (z < 48) = false := by simp at e2 ⊢; omega
                have e4 : decide (57 < z) = false := by simp at e2 ⊢; omega
                have e5 : (z == 46) = false := by simp at e2 ⊢; omega
                have e6 : IntKind.u8.wrap (z - 48) = z - 48 := by simp at e2; rw [IntKind.wrap_u8]; omega
                have e7 : IntKind.i64.wrap (z - 48) = z - 48 := IntWalk.i64_in _ (by omega)
                have hd9 : 0 ≤ z - 48 ∧ z - 48 ≤ 9 := by simp at e2; omega
                clear hsc e1 e2
                go_wp2_with (at_builtin; refine wpList_app rfl _ _ rfl w.heap.size _ _ [z - 48] rfl (H.out.below ((Below.refl _ _).alloc (Nat.le_refl _) (.cells #[.int .i64 (z - 48)] 3)) (Nat.le_refl _)) (some ⟨wr.heap.size, 0, none⟩) 1 1 rfl (irow1 _ _ _) (fun h => by cases h) ?c1 ?c2 ?_)
                case c1 => simp; omega
                case c2 => have := hwr.size; simp; omega
                intro v' w1 hO1 hb1
                have H1 := Lib.hid hO1
                clear hO1
                go_wp2_with fail
                go_roundg (gk - 1)
                case measure => omega
                case rel => exact ⟨i + 1, ds ++ [z - 48], pt, by omega, by go_num, rfl, H1.out, GD.out.app (Dg.cons hd9 Dg.nil), by simp; omega, hp0, by simp; omega, HSC.out, (hwr.alloc hwr.size _).trans hb1⟩
              · rw [e1, e2] at hsc
                simp only [Bool.false_eq_true, if_false, if_true] at hsc
                have hr := HR.out
                rw [HS.out] at hr
                simp only at hr
                rw [hsc] at hr
                obtain ⟨rfl, rfl, rfl⟩ : r1 = 0 ∧ r2 = 0 ∧ r3 = 12 := by simpa [docF, eq_comm] using hr
                clear hr hsc
                cases e3 : decide (z < 48)
                · have e4 : decide (57 < z) = true := by rw [e3] at e2; simpa using e2
                  have e5 : (z == 46) = false := by simp at e4 ⊢; omega
                  clear e1 e2
                  go_wp2_with fail
                  go_returns
                  exact ⟨rfl, hwr⟩
                · cases e5 : (z == 46)
                  · clear e1 e2
                    go_wp2_with fail
                    go_returns
                    exact ⟨rfl, hwr⟩
                  · have e6 : decide (pt < 0) = false := by rw [e5] at e1; simpa using e1
                    clear e1 e2
                    go_wp2_with fail
                    go_returns
                    exact ⟨rfl, hwr⟩
            · rw [e1] at hsc
              simp only [if_true] at hsc
              have HSC := Lib.hid hsc
              simp only [Bool.and_eq_true] at e1
              obtain ⟨e5, e6⟩ := e1
              clear hsc
              go_wp2_with fail
              go_roundg (gk - 1)
              case measure => omega
              case rel => exact ⟨i + 1, ds, ds.length, by omega, by go_num, rfl, H.out, GD.out, by omega, by omega, by omega, HSC.out, hwr⟩
          · have i1 : decide ((i : Int) < (l.length : Int)) = false := by simp; omega
            rw [List.drop_eq_nil_of_le (show l.length ≤ i by omega)] at hsc
            have hr := HR.out
            rw [HS.out] at hr
            simp only at hr
            rw [hsc] at hr
            simp only [scanF, docF] at hr
            clear hsc
            cases e0 : (ds.length == 0)
            · rw [e0] at hr
              simp only [Bool.false_eq_true, if_false] at hr
              have e0' : ((ds.length : Int) == 0) = false := by simp at e0 ⊢; exact e0
              have hds0 : ¬ ds.length = 0 := by simpa using e0
              have hdl2 : ds.length ≤ 2000000 := by omega
              obtain ⟨S, hS⟩ : ∃ S, S = (if decide (0 ≤ pt) then ds.length - pt.toNat else 0) := ⟨_, rfl⟩
              rw [← hS] at hr
              obtain ⟨f1, f2, f3, hf⟩ : ∃ f1 f2 f3, fitD false ds.reverse S = (f1, f2, f3) := ⟨_, _, _, rfl⟩
              rw [hf] at hr
              have gdr : Dg ds.reverse := fun d hd => GD.out d (by simpa using hd)
              have hS6 : S ≤ 2000000 := by rw [hS]; split <;> omega
              have hjs : (decide (0 ≤ pt) = true ∧ (ds.length : Int) - pt = (S : Int)) ∨ (decide (0 ≤ pt) = false ∧ S = 0) := by
                by_cases hp : 0 ≤ pt
                · exact .inl ⟨by simpa using hp, by rw [hS, if_pos (by simpa using hp)]; omega⟩
                · exact .inr ⟨by simpa using hp, by rw [hS, if_neg (by simpa using hp)]⟩
              have FT := Lib.hid (fun g2 c2 w' h1 h2 h3 => rfit_any false g2 c2 ds.reverse S w' h1 h2 h3 gdr (by simp; omega) hS6)
              rw [hf] at FT
              simp only [List.length_reverse] at FT
              have HIr := Lib.hid hIr
              clear hf gdr hS e0 hIr
              rcases hjs with ⟨ep, hjs⟩ | ⟨ep, rfl⟩
              · have j9 : IntKind.i64.wrap ((ds.length : Int) - pt) = (S : Int) := by rw [IntWalk.i64_in _ (by omega)]; exact hjs
                obtain ⟨W1, hW1⟩ : ∃ W1, W1 = wr := ⟨_, rfl⟩
                subst hW1
                go_wp2_with fail
                go_loopg [10, 11] (ds.length) (fun m lv iv wt => m ≤ ds.length ∧ iv = .int .i64 ((m : Int) - 1) ∧ ORow wt W1.heap.size lv (ds.drop m).reverse ∧ Below W1.heap.size W1 wt)
                case atStart => exact ⟨Nat.le_refl _, rfl, by rw [List.drop_length]; exact ORow.nil _ _, Below.refl _ _⟩
                case round =>
                  obtain ⟨hmd, rfl, hO2, hwt⟩ := hrel
                  have H2 := Lib.hid hO2
                  have hw2 := hwr.trans (hwt.mono hwr.size)
                  cases gk with
                  | zero =>
                    rw [List.drop_zero] at hO2
                    obtain ⟨g2, c2, rfl, hI2, hc2, hg2, -⟩ := hO2.drow (by simp; omega)
                    have HI2 := Lib.hid hI2
                    simp only [List.length_reverse] at hc2 HI2
                    clear hO2 hI2 H2
                    cases f3
                    · simp only [Bool.false_eq_true, if_false] at hr
                      obtain ⟨rfl, rfl, rfl⟩ : r1 = 0 ∧ r2 = 0 ∧ r3 = 53 := by simpa [eq_comm] using hr
                      clear hr
                      go_wp2_with (go_at_call 86; with_reducible refine (FT.out g2 c2 _ HI2.out hc2 hg2).mono ?_; rintro e w9 ⟨rfl, hb⟩
                                   have hw9 := hw2.trans (hb.mono hw2.size)
                                   clear hb)
                      go_returns
                      exact ⟨rfl, hw9⟩
                    · simp only [if_true] at hr
                      obtain ⟨rfl, rfl, rfl⟩ : r1 = f1 ∧ r2 = f2 ∧ r3 = 0 := by simpa [eq_comm] using hr
                      clear hr
                      go_wp2_with (go_at_call 86; with_reducible refine (FT.out g2 c2 _ HI2.out hc2 hg2).mono ?_; rintro e w9 ⟨rfl, hb⟩
                                   have hw9 := hw2.trans (hb.mono hw2.size)
                                   clear hb)
                      go_returns
                      exact ⟨rfl, hw9⟩
                  | succ j =>
                    clear hO2
                    obtain ⟨x, hx, -⟩ := at_lt ds (show j < ds.length by omega)
                    obtain ⟨p, o, hpo, hpb, y0⟩ := irow_at HIr.out hx
                    cases hpo
                    have z0' := (hwt.cell (p := ⟨p, o + j, none⟩) hpb).trans y0
                    have hrv : (ds.drop j).reverse = (ds.drop (j + 1)).reverse ++ [x] := by rw [drop_at hx]; simp
                    have HRV := Lib.hid hrv
                    have j4 : IntKind.i64.wrap ((j : Int) - 1) = (j : Int) - 1 := IntWalk.i64_in _ (by omega)
                    have i9 : ((j + 1 : Nat) : Int) - 1 = (j : Int) := by omega
                    have hjd : j < ds.length := by omega
                    clear hx hrv y0
                    go_wp2_with (at_builtin; refine wpList_app rfl _ _ rfl W1.heap.size _ _ [x] rfl (H2.out.below ((Below.refl _ _).alloc (Nat.le_refl _) (.cells #[.int .i64 x] 3)) (Nat.le_refl _)) (some ⟨wr.heap.size, 0, none⟩) 1 1 rfl (irow1 _ _ _) (fun h => by cases h) ?c1 ?c2 ?_)
                    case c1 => simp; omega
                    case c2 => have := hwt.size; simp; omega
                    intro v' w1 hO1 hb1
                    have H3 := Lib.hid hO1
                    clear hO1
                    go_wp2_with fail
                    go_roundg j
                    case measure => omega
                    case rel => exact ⟨by omega, by first | rfl | go_num, by rw [HRV.out]; exact H3.out, (hwt.alloc hwt.size _).trans hb1⟩
              · simp only [Int.natCast_zero] at FT
                obtain ⟨W1, hW1⟩ : ∃ W1, W1 = wr := ⟨_, rfl⟩
                subst hW1
                go_wp2_with fail
                go_loopg [10, 11] (ds.length) (fun m lv iv wt => m ≤ ds.length ∧ iv = .int .i64 ((m : Int) - 1) ∧ ORow wt W1.heap.size lv (ds.drop m).reverse ∧ Below W1.heap.size W1 wt)
                case atStart => exact ⟨Nat.le_refl _, rfl, by rw [List.drop_length]; exact ORow.nil _ _, Below.refl _ _⟩
                case round =>
                  obtain ⟨hmd, rfl, hO2, hwt⟩ := hrel
                  have H2 := Lib.hid hO2
                  have hw2 := hwr.trans (hwt.mono hwr.size)
                  cases gk with
                  | zero =>
                    rw [List.drop_zero] at hO2
                    obtain ⟨g2, c2, rfl, hI2, hc2, hg2, -⟩ := hO2.drow (by simp; omega)
                    have HI2 := Lib.hid hI2
                    simp only [List.length_reverse] at hc2 HI2
                    clear hO2 hI2 H2
                    cases f3
                    · simp only [Bool.false_eq_true, if_false] at hr
                      obtain ⟨rfl, rfl, rfl⟩ : r1 = 0 ∧ r2 = 0 ∧ r3 = 53 := by simpa [eq_comm] using hr
                      clear hr
                      go_wp2_with (go_at_call 86; with_reducible refine (FT.out g2 c2 _ HI2.out hc2 hg2).mono ?_; rintro e w9 ⟨rfl, hb⟩
                                   have hw9 := hw2.trans (hb.mono hw2.size)
                                   clear hb)
                      go_returns
                      exact ⟨rfl, hw9⟩
                    · simp only [if_true] at hr
                      obtain ⟨rfl, rfl, rfl⟩ : r1 = f1 ∧ r2 = f2 ∧ r3 = 0 := by simpa [eq_comm] using hr
                      clear hr
                      go_wp2_with (go_at_call 86; with_reducible refine (FT.out g2 c2 _ HI2.out hc2 hg2).mono ?_; rintro e w9 ⟨rfl, hb⟩
                                   have hw9 := hw2.trans (hb.mono hw2.size)
                                   clear hb)
                      go_returns
                      exact ⟨rfl, hw9⟩
                  | succ j =>
                    clear hO2
                    obtain ⟨x, hx, -⟩ := at_lt ds (show j < ds.length by omega)
                    obtain ⟨p, o, hpo, hpb, y0⟩ := irow_at HIr.out hx
                    cases hpo
                    have z0' := (hwt.cell (p := ⟨p, o + j, none⟩) hpb).trans y0
                    have hrv : (ds.drop j).reverse = (ds.drop (j + 1)).reverse ++ [x] := by rw [drop_at hx]; simp
                    have HRV := Lib.hid hrv
                    have j4 : IntKind.i64.wrap ((j : Int) - 1) = (j : Int) - 1 := IntWalk.i64_in _ (by omega)
                    have i9 : ((j + 1 : Nat) : Int) - 1 = (j : Int) := by omega
                    have hjd : j < ds.length := by omega
                    clear hx hrv y0
                    go_wp2_with (at_builtin; refine wpList_app rfl _ _ rfl W1.heap.size _ _ [x] rfl (H2.out.below ((Below.refl _ _).alloc (Nat.le_refl _) (.cells #[.int .i64 x] 3)) (Nat.le_refl _)) (some ⟨wr.heap.size, 0, none⟩) 1 1 rfl (irow1 _ _ _) (fun h => by cases h) ?c1 ?c2 ?_)
                    case c1 => simp; omega
                    case c2 => have := hwt.size; simp; omega
                    intro v' w1 hO1 hb1
                    have H3 := Lib.hid hO1
                    clear hO1
                    go_wp2_with fail
                    go_roundg j
                    case measure => omega
                    case rel => exact ⟨by omega, by first | rfl | go_num, by rw [HRV.out]; exact H3.out, (hwt.alloc hwt.size _).trans hb1⟩
            · rw [e0] at hr
              simp only [if_true] at hr
              have e0' : ((ds.length : Int) == 0) = true := by simp at e0 ⊢; exact e0
              obtain ⟨rfl, rfl, rfl⟩ : r1 = 0 ∧ r2 = 0 ∧ r3 = 12 := by simpa [eq_comm] using hr
              clear hr
              go_wp2_with fail
              go_returns
              exact ⟨rfl, hwr⟩
      · rw [e45, e43] at hsf
        simp only [Bool.false_eq_true, if_false, if_true] at hsf
        have HS := Lib.hid hsf
        have hzr := ba_size r
        have hrl2 : r.length ≤ 2000000 := by omega
        clear hsf
        go_enter Tryz.func56, Tryz.ntmps56
        go_wp2_with fail
        go_loopg [6, 7, 8] (r.length) (fun m dv pv iv wr => ∃ (i : Nat) (ds : List Int) (pt : Int), m + i = r.length ∧ iv = .int .i64 (i : Int) ∧ pv = .int .i64 pt ∧ ORow wr w.heap.size dv ds ∧ Dg ds ∧ ds.length ≤ i ∧ -1 ≤ pt ∧ pt ≤ ds.length ∧ scanF r [] (-1) = scanF (r.drop i) ds pt ∧ Below w.heap.size w wr)
        case atStart => exact ⟨0, [], -1, by omega, rfl, rfl, ORow.nil _ _, Dg.nil, by simp, by omega, by simp, rfl, Below.refl _ _⟩
        case round =>
          obtain ⟨i, ds, pt, hm, rfl, rfl, hO, gd, hdl, hp0, hp1, hsc, hwr⟩ := hrel
          have hi0 : (0 : Int) ≤ (i : Int) := Int.natCast_nonneg _
          have j3 : IntKind.i64.wrap ((i : Int) + 1) = (i : Int) + 1 := IntWalk.i64_in _ (by omega)
          have H := Lib.hid hO
          have GD := Lib.hid gd
          obtain ⟨g, cc, rfl, hIr, hcc, hg0, -⟩ := hO.drow (by omega)
          clear hO gd
          by_cases hlt : i < r.length
          · have hltS : i < (⟨r.toArray⟩ : ByteArray).size := by rw [ba_size]; exact hlt
            have i1 : decide ((i : Int) < (r.length : Int)) = true := by simp; omega
            obtain ⟨c, hc⟩ : ∃ c, r[i]? = some c := ⟨r[i], by simp [hlt]⟩
            have hat := ba_at r i hltS c hc
            have hdr : r.drop i = c :: r.drop (i + 1) := by
              rw [List.getElem?_eq_getElem hlt] at hc
              rw [List.drop_eq_getElem_cons hlt, Option.some.inj hc]
            have c0 := c.toNat_lt
            obtain ⟨z, hz⟩ : ∃ z : Int, (c.toNat : Int) = z := ⟨_, rfl⟩
            have hz0 : 0 ≤ z ∧ z ≤ 255 := by omega
            rw [hdr, scan_step c _ _ _ z hz] at hsc
            clear hdr hc c0
            cases e1 : (z == 46) && decide (pt < 0)
            · cases e2 : decide (z < 48) || decide (57 < z)
              · rw [e1, e2] at hsc
                simp only [Bool.false_eq_true, if_false] at hsc
                have HSC := Lib.hid hsc
                have e3 : decide (z < 48) = false := by simp at e2 ⊢; omega
                have e4 : decide (57 < z) = false := by simp at e2 ⊢; omega
                have e5 : (z == 46) = false := by simp at e2 ⊢; omega
                have e6 : IntKind.u8.wrap (z - 48) = z - 48 := by simp at e2; rw [IntKind.wrap_u8]; omega
                have e7 : IntKind.i64.wrap (z - 48) = z - 48 := IntWalk.i64_in _ (by omega)
                have hd9 : 0 ≤ z - 48 ∧ z - 48 ≤ 9 := by simp at e2; omega
                clear hsc e1 e2
                go_wp2_with (at_builtin; refine wpList_app rfl _ _ rfl w.heap.size _ _ [z - 48] rfl (H.out.below ((Below.refl _ _).alloc (Nat.le_refl _) (.cells #[.int .i64 (z - 48)] 3)) (Nat.le_refl _)) (some ⟨wr.heap.size, 0, none⟩) 1 1 rfl (irow1 _ _ _) (fun h => by cases h) ?c1 ?c2 ?_)
                case c1 => simp; omega
                case c2 => have := hwr.size; simp; omega
                intro v' w1 hO1 hb1
                have H1 := Lib.hid hO1
                clear hO1
                go_wp2_with fail
                go_roundg (gk - 1)
                case measure => omega
                case rel => exact ⟨i + 1, ds ++ [z - 48], pt, by omega, by go_num, rfl, H1.out, GD.out.app (Dg.cons hd9 Dg.nil), by simp; omega, hp0, by simp; omega, HSC.out, (hwr.alloc hwr.size _).trans hb1⟩
              · rw [e1, e2] at hsc
                simp only [Bool.false_eq_true, if_false, if_true] at hsc
                have hr := HR.out
                rw [HS.out] at hr
                simp only at hr
                rw [hsc] at hr
                obtain ⟨rfl, rfl, rfl⟩ : r1 = 0 ∧ r2 = 0 ∧ r3 = 12 := by simpa [docF, eq_comm] using hr
                clear hr hsc
                cases e3 : decide (z < 48)
                · have e4 : decide (57 < z) = true := by rw [e3] at e2; simpa using e2
                  have e5 : (z == 46) = false := by simp at e4 ⊢; omega
                  clear e1 e2
                  go_wp2_with fail
                  go_returns
                  exact ⟨rfl, hwr⟩
                · cases e5 : (z == 46)
                  · clear e1 e2
                    go_wp2_with fail
                    go_returns
                    exact ⟨rfl, hwr⟩
                  · have e6 : decide (pt < 0) = false := by rw [e5] at e1; simpa using e1
                    clear e1 e2
                    go_wp2_with fail
                    go_returns
                    exact ⟨rfl, hwr⟩
            · rw [e1] at hsc
              simp only [if_true] at hsc
              have HSC := Lib.hid hsc
              simp only [Bool.and_eq_true] at e1
              obtain ⟨e5, e6⟩ := e1
              clear hsc
              go_wp2_with fail
              go_roundg (gk - 1)
              case measure => omega
              case rel => exact ⟨i + 1, ds, ds.length, by omega, by go_num, rfl, H.out, GD.out, by omega, by omega, by omega, HSC.out, hwr⟩
          · have i1 : decide ((i : Int) < (r.length : Int)) = false := by simp; omega
            rw [List.drop_eq_nil_of_le (show r.length ≤ i by omega)] at hsc
            have hr := HR.out
            rw [HS.out] at hr
            simp only at hr
            rw [hsc] at hr
            simp only [scanF, docF] at hr
            clear hsc
            cases e0 : (ds.length == 0)
            · rw [e0] at hr
              simp only [Bool.false_eq_true, if_false] at hr
              have e0' : ((ds.length : Int) == 0) = false := by simp at e0 ⊢; exact e0
              have hds0 : ¬ ds.length = 0 := by simpa using e0
              have hdl2 : ds.length ≤ 2000000 := by omega
              obtain ⟨S, hS⟩ : ∃ S, S = (if decide (0 ≤ pt) then ds.length - pt.toNat else 0) := ⟨_, rfl⟩
              rw [← hS] at hr
              obtain ⟨f1, f2, f3, hf⟩ : ∃ f1 f2 f3, fitD false ds.reverse S = (f1, f2, f3) := ⟨_, _, _, rfl⟩
              rw [hf] at hr
              have gdr : Dg ds.reverse := fun d hd => GD.out d (by simpa using hd)
              have hS6 : S ≤ 2000000 := by rw [hS]; split <;> omega
              have hjs : (decide (0 ≤ pt) = true ∧ (ds.length : Int) - pt = (S : Int)) ∨ (decide (0 ≤ pt) = false ∧ S = 0) := by
                by_cases hp : 0 ≤ pt
                · exact .inl ⟨by simpa using hp, by rw [hS, if_pos (by simpa using hp)]; omega⟩
                · exact .inr ⟨by simpa using hp, by rw [hS, if_neg (by simpa using hp)]⟩
              have FT := Lib.hid (fun g2 c2 w' h1 h2 h3 => rfit_any false g2 c2 ds.reverse S w' h1 h2 h3 gdr (by simp; omega) hS6)
              rw [hf] at FT
              simp only [List.length_reverse] at FT
              have HIr := Lib.hid hIr
              clear hf gdr hS e0 hIr
              rcases hjs with ⟨ep, hjs⟩ | ⟨ep, rfl⟩
              · have j9 : IntKind.i64.wrap ((ds.length : Int) - pt) = (S : Int) := by rw [IntWalk.i64_in _ (by omega)]; exact hjs
                obtain ⟨W1, hW1⟩ : ∃ W1, W1 = wr := ⟨_, rfl⟩
                subst hW1
                go_wp2_with fail
                go_loopg [10, 11] (ds.length) (fun m lv iv wt => m ≤ ds.length ∧ iv = .int .i64 ((m : Int) - 1) ∧ ORow wt W1.heap.size lv (ds.drop m).reverse ∧ Below W1.heap.size W1 wt)
                case atStart => exact ⟨Nat.le_refl _, rfl, by rw [List.drop_length]; exact ORow.nil _ _, Below.refl _ _⟩
                case round =>
                  obtain ⟨hmd, rfl, hO2, hwt⟩ := hrel
                  have H2 := Lib.hid hO2
                  have hw2 := hwr.trans (hwt.mono hwr.size)
                  cases gk with
                  | zero =>
                    rw [List.drop_zero] at hO2
                    obtain ⟨g2, c2, rfl, hI2, hc2, hg2, -⟩ := hO2.drow (by simp; omega)
                    have HI2 := Lib.hid hI2
                    simp only [List.length_reverse] at hc2 HI2
                    clear hO2 hI2 H2
                    cases f3
                    · simp only [Bool.false_eq_true, if_false] at hr
                      obtain ⟨rfl, rfl, rfl⟩ : r1 = 0 ∧ r2 = 0 ∧ r3 = 53 := by simpa [eq_comm] using hr
                      clear hr
                      go_wp2_with (go_at_call 86; with_reducible refine (FT.out g2 c2 _ HI2.out hc2 hg2).mono ?_; rintro e w9 ⟨rfl, hb⟩
                                   have hw9 := hw2.trans (hb.mono hw2.size)
                                   clear hb)
                      go_returns
                      exact ⟨rfl, hw9⟩
                    · simp only [if_true] at hr
                      obtain ⟨rfl, rfl, rfl⟩ : r1 = f1 ∧ r2 = f2 ∧ r3 = 0 := by simpa [eq_comm] using hr
                      clear hr
                      go_wp2_with (go_at_call 86; with_reducible refine (FT.out g2 c2 _ HI2.out hc2 hg2).mono ?_; rintro e w9 ⟨rfl, hb⟩
                                   have hw9 := hw2.trans (hb.mono hw2.size)
                                   clear hb)
                      go_returns
                      exact ⟨rfl, hw9⟩
                  | succ j =>
                    clear hO2
                    obtain ⟨x, hx, -⟩ := at_lt ds (show j < ds.length by omega)
                    obtain ⟨p, o, hpo, hpb, y0⟩ := irow_at HIr.out hx
                    cases hpo
                    have z0' := (hwt.cell (p := ⟨p, o + j, none⟩) hpb).trans y0
                    have hrv : (ds.drop j).reverse = (ds.drop (j + 1)).reverse ++ [x] := by rw [drop_at hx]; simp
                    have HRV := Lib.hid hrv
                    have j4 : IntKind.i64.wrap ((j : Int) - 1) = (j : Int) - 1 := IntWalk.i64_in _ (by omega)
                    have i9 : ((j + 1 : Nat) : Int) - 1 = (j : Int) := by omega
                    have hjd : j < ds.length := by omega
                    clear hx hrv y0
                    go_wp2_with (at_builtin; refine wpList_app rfl _ _ rfl W1.heap.size _ _ [x] rfl (H2.out.below ((Below.refl _ _).alloc (Nat.le_refl _) (.cells #[.int .i64 x] 3)) (Nat.le_refl _)) (some ⟨wr.heap.size, 0, none⟩) 1 1 rfl (irow1 _ _ _) (fun h => by cases h) ?c1 ?c2 ?_)
                    case c1 => simp; omega
                    case c2 => have := hwt.size; simp; omega
                    intro v' w1 hO1 hb1
                    have H3 := Lib.hid hO1
                    clear hO1
                    go_wp2_with fail
                    go_roundg j
                    case measure => omega
                    case rel => exact ⟨by omega, by first | rfl | go_num, by rw [HRV.out]; exact H3.out, (hwt.alloc hwt.size _).trans hb1⟩
              · simp only [Int.natCast_zero] at FT
                obtain ⟨W1, hW1⟩ : ∃ W1, W1 = wr := ⟨_, rfl⟩
                subst hW1
                go_wp2_with fail
                go_loopg [10, 11] (ds.length) (fun m lv iv wt => m ≤ ds.length ∧ iv = .int .i64 ((m : Int) - 1) ∧ ORow wt W1.heap.size lv (ds.drop m).reverse ∧ Below W1.heap.size W1 wt)
                case atStart => exact ⟨Nat.le_refl _, rfl, by rw [List.drop_length]; exact ORow.nil _ _, Below.refl _ _⟩
                case round =>
                  obtain ⟨hmd, rfl, hO2, hwt⟩ := hrel
                  have H2 := Lib.hid hO2
                  have hw2 := hwr.trans (hwt.mono hwr.size)
                  cases gk with
                  | zero =>
                    rw [List.drop_zero] at hO2
                    obtain ⟨g2, c2, rfl, hI2, hc2, hg2, -⟩ := hO2.drow (by simp; omega)
                    have HI2 := Lib.hid hI2
                    simp only [List.length_reverse] at hc2 HI2
                    clear hO2 hI2 H2
                    cases f3
                    · simp only [Bool.false_eq_true, if_false] at hr
                      obtain ⟨rfl, rfl, rfl⟩ : r1 = 0 ∧ r2 = 0 ∧ r3 = 53 := by simpa [eq_comm] using hr
                      clear hr
                      go_wp2_with (go_at_call 86; with_reducible refine (FT.out g2 c2 _ HI2.out hc2 hg2).mono ?_; rintro e w9 ⟨rfl, hb⟩
                                   have hw9 := hw2.trans (hb.mono hw2.size)
                                   clear hb)
                      go_returns
                      exact ⟨rfl, hw9⟩
                    · simp only [if_true] at hr
                      obtain ⟨rfl, rfl, rfl⟩ : r1 = f1 ∧ r2 = f2 ∧ r3 = 0 := by simpa [eq_comm] using hr
                      clear hr
                      go_wp2_with (go_at_call 86; with_reducible refine (FT.out g2 c2 _ HI2.out hc2 hg2).mono ?_; rintro e w9 ⟨rfl, hb⟩
                                   have hw9 := hw2.trans (hb.mono hw2.size)
                                   clear hb)
                      go_returns
                      exact ⟨rfl, hw9⟩
                  | succ j =>
                    clear hO2
                    obtain ⟨x, hx, -⟩ := at_lt ds (show j < ds.length by omega)
                    obtain ⟨p, o, hpo, hpb, y0⟩ := irow_at HIr.out hx
                    cases hpo
                    have z0' := (hwt.cell (p := ⟨p, o + j, none⟩) hpb).trans y0
                    have hrv : (ds.drop j).reverse = (ds.drop (j + 1)).reverse ++ [x] := by rw [drop_at hx]; simp
                    have HRV := Lib.hid hrv
                    have j4 : IntKind.i64.wrap ((j : Int) - 1) = (j : Int) - 1 := IntWalk.i64_in _ (by omega)
                    have i9 : ((j + 1 : Nat) : Int) - 1 = (j : Int) := by omega
                    have hjd : j < ds.length := by omega
                    clear hx hrv y0
                    go_wp2_with (at_builtin; refine wpList_app rfl _ _ rfl W1.heap.size _ _ [x] rfl (H2.out.below ((Below.refl _ _).alloc (Nat.le_refl _) (.cells #[.int .i64 x] 3)) (Nat.le_refl _)) (some ⟨wr.heap.size, 0, none⟩) 1 1 rfl (irow1 _ _ _) (fun h => by cases h) ?c1 ?c2 ?_)
                    case c1 => simp; omega
                    case c2 => have := hwt.size; simp; omega
                    intro v' w1 hO1 hb1
                    have H3 := Lib.hid hO1
                    clear hO1
                    go_wp2_with fail
                    go_roundg j
                    case measure => omega
                    case rel => exact ⟨by omega, by first | rfl | go_num, by rw [HRV.out]; exact H3.out, (hwt.alloc hwt.size _).trans hb1⟩
            · rw [e0] at hr
              simp only [if_true] at hr
              have e0' : ((ds.length : Int) == 0) = true := by simp at e0 ⊢; exact e0
              obtain ⟨rfl, rfl, rfl⟩ : r1 = 0 ∧ r2 = 0 ∧ r3 = 12 := by simpa [eq_comm] using hr
              clear hr
              go_wp2_with fail
              go_returns
              exact ⟨rfl, hwr⟩
    · rw [e45] at hsf
      simp only [if_true] at hsf
      have HS := Lib.hid hsf
      have hzr := ba_size r
      have hrl2 : r.length ≤ 2000000 := by omega
      clear hsf
      go_enter Tryz.func56, Tryz.ntmps56
      go_wp2_with fail
      go_loopg [6, 7, 8] (r.length) (fun m dv pv iv wr => ∃ (i : Nat) (ds : List Int) (pt : Int), m + i = r.length ∧ iv = .int .i64 (i : Int) ∧ pv = .int .i64 pt ∧ ORow wr w.heap.size dv ds ∧ Dg ds ∧ ds.length ≤ i ∧ -1 ≤ pt ∧ pt ≤ ds.length ∧ scanF r [] (-1) = scanF (r.drop i) ds pt ∧ Below w.heap.size w wr)
      case atStart => exact ⟨0, [], -1, by omega, rfl, rfl, ORow.nil _ _, Dg.nil, by simp, by omega, by simp, rfl, Below.refl _ _⟩
      case round =>
        obtain ⟨i, ds, pt, hm, rfl, rfl, hO, gd, hdl, hp0, hp1, hsc, hwr⟩ := hrel
        have hi0 : (0 : Int) ≤ (i : Int) := Int.natCast_nonneg _
        have j3 : IntKind.i64.wrap ((i : Int) + 1) = (i : Int) + 1 := IntWalk.i64_in _ (by omega)
        have H := Lib.hid hO
        have GD := Lib.hid gd
        obtain ⟨g, cc, rfl, hIr, hcc, hg0, -⟩ := hO.drow (by omega)
        clear hO gd
        by_cases hlt : i < r.length
        · have hltS : i < (⟨r.toArray⟩ : ByteArray).size := by rw [ba_size]; exact hlt
          have i1 : decide ((i : Int) < (r.length : Int)) = true := by simp; omega
          obtain ⟨c, hc⟩ : ∃ c, r[i]? = some c := ⟨r[i], by simp [hlt]⟩
          have hat := ba_at r i hltS c hc
          have hdr : r.drop i = c :: r.drop (i + 1) := by
            rw [List.getElem?_eq_getElem hlt] at hc
            rw [List.drop_eq_getElem_cons hlt, Option.some.inj hc]
          have c0 := c.toNat_lt
          obtain ⟨z, hz⟩ : ∃ z : Int, (c.toNat : Int) = z := ⟨_, rfl⟩
          have hz0 : 0 ≤ z ∧ z ≤ 255 := by omega
          rw [hdr, scan_step c _ _ _ z hz] at hsc
          clear hdr hc c0
          cases e1 : (z == 46) && decide (pt < 0)
          · cases e2 : decide (z < 48) || decide (57 < z)
            · rw [e1, e2] at hsc
              simp only [Bool.false_eq_true, if_false] at hsc
              have HSC := Lib.hid hsc
              have e3 : decide (z < 48) = false := by simp at e2 ⊢; omega
              have e4 : decide (57 < z) = false := by simp at e2 ⊢; omega
              have e5 : (z == 46) = false := by simp at e2 ⊢; omega
              have e6 : IntKind.u8.wrap (z - 48) = z - 48 := by simp at e2; rw [IntKind.wrap_u8]; omega
              have e7 : IntKind.i64.wrap (z - 48) = z - 48 := IntWalk.i64_in _ (by omega)
              have hd9 : 0 ≤ z - 48 ∧ z - 48 ≤ 9 := by simp at e2; omega
              clear hsc e1 e2
              go_wp2_with (at_builtin; refine wpList_app rfl _ _ rfl w.heap.size _ _ [z - 48] rfl (H.out.below ((Below.refl _ _).alloc (Nat.le_refl _) (.cells #[.int .i64 (z - 48)] 3)) (Nat.le_refl _)) (some ⟨wr.heap.size, 0, none⟩) 1 1 rfl (irow1 _ _ _) (fun h => by cases h) ?c1 ?c2 ?_)
              case c1 => simp; omega
              case c2 => have := hwr.size; simp; omega
              intro v' w1 hO1 hb1
              have H1 := Lib.hid hO1
              clear hO1
              go_wp2_with fail
              go_roundg (gk - 1)
              case measure => omega
              case rel => exact ⟨i + 1, ds ++ [z - 48], pt, by omega, by go_num, rfl, H1.out, GD.out.app (Dg.cons hd9 Dg.nil), by simp; omega, hp0, by simp; omega, HSC.out, (hwr.alloc hwr.size _).trans hb1⟩
            · rw [e1, e2] at hsc
              simp only [Bool.false_eq_true, if_false, if_true] at hsc
              have hr := HR.out
              rw [HS.out] at hr
              simp only at hr
              rw [hsc] at hr
              obtain ⟨rfl, rfl, rfl⟩ : r1 = 0 ∧ r2 = 0 ∧ r3 = 12 := by simpa [docF, eq_comm] using hr
              clear hr hsc
              cases e3 : decide (z < 48)
              · have e4 : decide (57 < z) = true := by rw [e3] at e2; simpa using e2
                have e5 : (z == 46) = false := by simp at e4 ⊢; omega
                clear e1 e2
                go_wp2_with fail
                go_returns
                exact ⟨rfl, hwr⟩
              · cases e5 : (z == 46)
                · clear e1 e2
                  go_wp2_with fail
                  go_returns
                  exact ⟨rfl, hwr⟩
                · have e6 : decide (pt < 0) = false := by rw [e5] at e1; simpa using e1
                  clear e1 e2
                  go_wp2_with fail
                  go_returns
                  exact ⟨rfl, hwr⟩
          · rw [e1] at hsc
            simp only [if_true] at hsc
            have HSC := Lib.hid hsc
            simp only [Bool.and_eq_true] at e1
            obtain ⟨e5, e6⟩ := e1
            clear hsc
            go_wp2_with fail
            go_roundg (gk - 1)
            case measure => omega
            case rel => exact ⟨i + 1, ds, ds.length, by omega, by go_num, rfl, H.out, GD.out, by omega, by omega, by omega, HSC.out, hwr⟩
        · have i1 : decide ((i : Int) < (r.length : Int)) = false := by simp; omega
          rw [List.drop_eq_nil_of_le (show r.length ≤ i by omega)] at hsc
          have hr := HR.out
          rw [HS.out] at hr
          simp only at hr
          rw [hsc] at hr
          simp only [scanF, docF] at hr
          clear hsc
          cases e0 : (ds.length == 0)
          · rw [e0] at hr
            simp only [Bool.false_eq_true, if_false] at hr
            have e0' : ((ds.length : Int) == 0) = false := by simp at e0 ⊢; exact e0
            have hds0 : ¬ ds.length = 0 := by simpa using e0
            have hdl2 : ds.length ≤ 2000000 := by omega
            obtain ⟨S, hS⟩ : ∃ S, S = (if decide (0 ≤ pt) then ds.length - pt.toNat else 0) := ⟨_, rfl⟩
            rw [← hS] at hr
            obtain ⟨f1, f2, f3, hf⟩ : ∃ f1 f2 f3, fitD true ds.reverse S = (f1, f2, f3) := ⟨_, _, _, rfl⟩
            rw [hf] at hr
            have gdr : Dg ds.reverse := fun d hd => GD.out d (by simpa using hd)
            have hS6 : S ≤ 2000000 := by rw [hS]; split <;> omega
            have hjs : (decide (0 ≤ pt) = true ∧ (ds.length : Int) - pt = (S : Int)) ∨ (decide (0 ≤ pt) = false ∧ S = 0) := by
              by_cases hp : 0 ≤ pt
              · exact .inl ⟨by simpa using hp, by rw [hS, if_pos (by simpa using hp)]; omega⟩
              · exact .inr ⟨by simpa using hp, by rw [hS, if_neg (by simpa using hp)]⟩
            have FT := Lib.hid (fun g2 c2 w' h1 h2 h3 => rfit_any true g2 c2 ds.reverse S w' h1 h2 h3 gdr (by simp; omega) hS6)
            rw [hf] at FT
            simp only [List.length_reverse] at FT
            have HIr := Lib.hid hIr
            clear hf gdr hS e0 hIr
            rcases hjs with ⟨ep, hjs⟩ | ⟨ep, rfl⟩
            · have j9 : IntKind.i64.wrap ((ds.length : Int) - pt) = (S : Int) := by rw [IntWalk.i64_in _ (by omega)]; exact hjs
              obtain ⟨W1, hW1⟩ : ∃ W1, W1 = wr := ⟨_, rfl⟩
              subst hW1
              go_wp2_with fail
              go_loopg [10, 11] (ds.length) (fun m lv iv wt => m ≤ ds.length ∧ iv = .int .i64 ((m : Int) - 1) ∧ ORow wt W1.heap.size lv (ds.drop m).reverse ∧ Below W1.heap.size W1 wt)
              case atStart => exact ⟨Nat.le_refl _, rfl, by rw [List.drop_length]; exact ORow.nil _ _, Below.refl _ _⟩
              case round =>
                obtain ⟨hmd, rfl, hO2, hwt⟩ := hrel
                have H2 := Lib.hid hO2
                have hw2 := hwr.trans (hwt.mono hwr.size)
                cases gk with
                | zero =>
                  rw [List.drop_zero] at hO2
                  obtain ⟨g2, c2, rfl, hI2, hc2, hg2, -⟩ := hO2.drow (by simp; omega)
                  have HI2 := Lib.hid hI2
                  simp only [List.length_reverse] at hc2 HI2
                  clear hO2 hI2 H2
                  cases f3
                  · simp only [Bool.false_eq_true, if_false] at hr
                    obtain ⟨rfl, rfl, rfl⟩ : r1 = 0 ∧ r2 = 0 ∧ r3 = 53 := by simpa [eq_comm] using hr
                    clear hr
                    go_wp2_with (go_at_call 86; with_reducible refine (FT.out g2 c2 _ HI2.out hc2 hg2).mono ?_; rintro e w9 ⟨rfl, hb⟩
                                 have hw9 := hw2.trans (hb.mono hw2.size)
                                 clear hb)
                    go_returns
                    exact ⟨rfl, hw9⟩
                  · simp only [if_true] at hr
                    obtain ⟨rfl, rfl, rfl⟩ : r1 = f1 ∧ r2 = f2 ∧ r3 = 0 := by simpa [eq_comm] using hr
                    clear hr
                    go_wp2_with (go_at_call 86; with_reducible refine (FT.out g2 c2 _ HI2.out hc2 hg2).mono ?_; rintro e w9 ⟨rfl, hb⟩
                                 have hw9 := hw2.trans (hb.mono hw2.size)
                                 clear hb)
                    go_returns
                    exact ⟨rfl, hw9⟩
                | succ j =>
                  clear hO2
                  obtain ⟨x, hx, -⟩ := at_lt ds (show j < ds.length by omega)
                  obtain ⟨p, o, hpo, hpb, y0⟩ := irow_at HIr.out hx
                  cases hpo
                  have z0' := (hwt.cell (p := ⟨p, o + j, none⟩) hpb).trans y0
                  have hrv : (ds.drop j).reverse = (ds.drop (j + 1)).reverse ++ [x] := by rw [drop_at hx]; simp
                  have HRV := Lib.hid hrv
                  have j4 : IntKind.i64.wrap ((j : Int) - 1) = (j : Int) - 1 := IntWalk.i64_in _ (by omega)
                  have i9 : ((j + 1 : Nat) : Int) - 1 = (j : Int) := by omega
                  have hjd : j < ds.length := by omega
                  clear hx hrv y0
                  go_wp2_with (at_builtin; refine wpList_app rfl _ _ rfl W1.heap.size _ _ [x] rfl (H2.out.below ((Below.refl _ _).alloc (Nat.le_refl _) (.cells #[.int .i64 x] 3)) (Nat.le_refl _)) (some ⟨wr.heap.size, 0, none⟩) 1 1 rfl (irow1 _ _ _) (fun h => by cases h) ?c1 ?c2 ?_)
                  case c1 => simp; omega
                  case c2 => have := hwt.size; simp; omega
                  intro v' w1 hO1 hb1
                  have H3 := Lib.hid hO1
                  clear hO1
                  go_wp2_with fail
                  go_roundg j
                  case measure => omega
                  case rel => exact ⟨by omega, by first | rfl | go_num, by rw [HRV.out]; exact H3.out, (hwt.alloc hwt.size _).trans hb1⟩
            · simp only [Int.natCast_zero] at FT
              obtain ⟨W1, hW1⟩ : ∃ W1, W1 = wr := ⟨_, rfl⟩
              subst hW1
              go_wp2_with fail
              go_loopg [10, 11] (ds.length) (fun m lv iv wt => m ≤ ds.length ∧ iv = .int .i64 ((m : Int) - 1) ∧ ORow wt W1.heap.size lv (ds.drop m).reverse ∧ Below W1.heap.size W1 wt)
              case atStart => exact ⟨Nat.le_refl _, rfl, by rw [List.drop_length]; exact ORow.nil _ _, Below.refl _ _⟩
              case round =>
                obtain ⟨hmd, rfl, hO2, hwt⟩ := hrel
                have H2 := Lib.hid hO2
                have hw2 := hwr.trans (hwt.mono hwr.size)
                cases gk with
                | zero =>
                  rw [List.drop_zero] at hO2
                  obtain ⟨g2, c2, rfl, hI2, hc2, hg2, -⟩ := hO2.drow (by simp; omega)
                  have HI2 := Lib.hid hI2
                  simp only [List.length_reverse] at hc2 HI2
                  clear hO2 hI2 H2
                  cases f3
                  · simp only [Bool.false_eq_true, if_false] at hr
                    obtain ⟨rfl, rfl, rfl⟩ : r1 = 0 ∧ r2 = 0 ∧ r3 = 53 := by simpa [eq_comm] using hr
                    clear hr
                    go_wp2_with (go_at_call 86; with_reducible refine (FT.out g2 c2 _ HI2.out hc2 hg2).mono ?_; rintro e w9 ⟨rfl, hb⟩
                                 have hw9 := hw2.trans (hb.mono hw2.size)
                                 clear hb)
                    go_returns
                    exact ⟨rfl, hw9⟩
                  · simp only [if_true] at hr
                    obtain ⟨rfl, rfl, rfl⟩ : r1 = f1 ∧ r2 = f2 ∧ r3 = 0 := by simpa [eq_comm] using hr
                    clear hr
                    go_wp2_with (go_at_call 86; with_reducible refine (FT.out g2 c2 _ HI2.out hc2 hg2).mono ?_; rintro e w9 ⟨rfl, hb⟩
                                 have hw9 := hw2.trans (hb.mono hw2.size)
                                 clear hb)
                    go_returns
                    exact ⟨rfl, hw9⟩
                | succ j =>
                  clear hO2
                  obtain ⟨x, hx, -⟩ := at_lt ds (show j < ds.length by omega)
                  obtain ⟨p, o, hpo, hpb, y0⟩ := irow_at HIr.out hx
                  cases hpo
                  have z0' := (hwt.cell (p := ⟨p, o + j, none⟩) hpb).trans y0
                  have hrv : (ds.drop j).reverse = (ds.drop (j + 1)).reverse ++ [x] := by rw [drop_at hx]; simp
                  have HRV := Lib.hid hrv
                  have j4 : IntKind.i64.wrap ((j : Int) - 1) = (j : Int) - 1 := IntWalk.i64_in _ (by omega)
                  have i9 : ((j + 1 : Nat) : Int) - 1 = (j : Int) := by omega
                  have hjd : j < ds.length := by omega
                  clear hx hrv y0
                  go_wp2_with (at_builtin; refine wpList_app rfl _ _ rfl W1.heap.size _ _ [x] rfl (H2.out.below ((Below.refl _ _).alloc (Nat.le_refl _) (.cells #[.int .i64 x] 3)) (Nat.le_refl _)) (some ⟨wr.heap.size, 0, none⟩) 1 1 rfl (irow1 _ _ _) (fun h => by cases h) ?c1 ?c2 ?_)
                  case c1 => simp; omega
                  case c2 => have := hwt.size; simp; omega
                  intro v' w1 hO1 hb1
                  have H3 := Lib.hid hO1
                  clear hO1
                  go_wp2_with fail
                  go_roundg j
                  case measure => omega
                  case rel => exact ⟨by omega, by first | rfl | go_num, by rw [HRV.out]; exact H3.out, (hwt.alloc hwt.size _).trans hb1⟩
          · rw [e0] at hr
            simp only [if_true] at hr
            have e0' : ((ds.length : Int) == 0) = true := by simp at e0 ⊢; exact e0
            obtain ⟨rfl, rfl, rfl⟩ : r1 = 0 ∧ r2 = 0 ∧ r3 = 12 := by simpa [eq_comm] using hr
            clear hr
            go_wp2_with fail
            go_returns
            exact ⟨rfl, hwr⟩
end Go.Proofs.YtaoobajokhcimaaGreatDoor
